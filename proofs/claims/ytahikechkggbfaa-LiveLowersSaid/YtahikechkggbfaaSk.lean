/- Chapter 20: what gcode tells of a number. -/
import Derived.Test.YtahikechkggbfaaSc
namespace Go.Proofs.Ytahikechkggbfaa
open Go Go.Ev Go.RowKit Lm
set_option linter.unusedVariables false
set_option linter.unusedSimpArgs false
set_option maxRecDepth 100000
namespace Ls
/-- How many bytes an instruction has. -/
def namedB (op : Int) : Bool := (decide (0 ≤ op) && decide (op ≤ 8)) || (decide (16 ≤ op) && decide (op ≤ 25)) || (decide (32 ≤ op) && decide (op ≤ 40)) || (decide (48 ≤ op) && decide (op ≤ 53)) || (decide (64 ≤ op) && decide (op ≤ 69))
def sizeZ (op : Int) : Int := if op = 1 ∨ (32 ≤ op ∧ op ≤ 38) ∨ op = 66 ∨ op = 67 then 2 else if op = 2 then 5 else if namedB op = true then 1 else 0
def rightI (op n : Int) : Bool := decide (sizeZ op ≠ 0) && ((!decide (sizeZ op = 1) || decide (n = 0)) && (!decide (sizeZ op = 2) || decide (n ≤ 255)))
def endsB (op : Int) : Bool := (decide (32 ≤ op) && decide (op ≤ 40)) || (decide (64 ≤ op) && decide (op ≤ 69))
def plainB (op : Int) : Bool := (decide (0 ≤ op) && decide (op ≤ 8)) || (decide (32 ≤ op) && decide (op ≤ 40)) || (decide (16 ≤ op) && (decide (op ≤ 25) && decide (op ≠ 24)))
def signZ (n : Int) : Int := IntKind.u32.wrap (IntKind.i32.wrap (IntKind.i8.wrap n))
theorem sizeZ_in (op : Int) : sizeZ op = 0 ∨ sizeZ op = 1 ∨ sizeZ op = 2 ∨ sizeZ op = 5 := by unfold sizeZ; split <;> (try split) <;> (try split) <;> simp
theorem sizeZ_wrap (op : Int) : IntKind.u32.wrap (sizeZ op) = sizeZ op := by rcases sizeZ_in op with h | h | h | h <;> rw [h] <;> rfl
noncomputable def f26b : Code := Try.f26.body.getD .skip
theorem f26_body : Try.f26.body = some f26b := by kernel_rfl
theorem f26_fn : T3.fn 26 = some Try.f26 := by kernel_rfl
set_option maxHeartbeats 1000000 in
theorem size_s (op : Int)  : SCall Try.prog T3 26 #[.int .i64 op] (hq []) fun v h => v = .int .i64 (sizeZ op) ∧ h = hq [] := by
  refine scall_sd 20 _ 0 kr f26_fn f26_body rfl rfl rfl fun X hX => ?_
  refine sd_run 19 ?_
  rcases Bool.eq_false_or_eq_true (((op : Int) == 1)) with hc1 | hc1
  · skip
    refine sd_see 4 (.bool true) (see_bool kr hc1) ?_
    refine sd_run 12 ?_
    simp only [decide_eq_true_eq, decide_eq_false_iff_not, beq_iff_eq, beq_eq_false_iff_ne, bne_iff_ne, bne_eq_false_iff_eq, ne_eq, Bool.not_eq_true, Bool.not_eq_false, Bool.not_not, gt_iff_lt, ge_iff_le, Int.not_le, Int.not_lt] at hc1
    refine sd_end (.int .i64 2) hX kr kr kr (.int .i64 2) (hq []) (emOf []) (sub_of kr kr True.intro) (rn2_sound _ _ kr) ⟨(by congr 1; unfold sizeZ namedB; simp; repeat (first | rfl | omega | split)), rfl⟩
  · skip
    refine sd_see 4 (.bool false) (see_bool kr hc1) ?_
    refine sd_run 7 ?_
    rcases Bool.eq_false_or_eq_true (((op : Int) == 32)) with hc2 | hc2
    · skip
      refine sd_see 4 (.bool true) (see_bool kr hc2) ?_
      refine sd_run 12 ?_
      simp only [decide_eq_true_eq, decide_eq_false_iff_not, beq_iff_eq, beq_eq_false_iff_ne, bne_iff_ne, bne_eq_false_iff_eq, ne_eq, Bool.not_eq_true, Bool.not_eq_false, Bool.not_not, gt_iff_lt, ge_iff_le, Int.not_le, Int.not_lt] at hc1 hc2
      refine sd_end (.int .i64 2) hX kr kr kr (.int .i64 2) (hq []) (emOf []) (sub_of kr kr True.intro) (rn2_sound _ _ kr) ⟨(by congr 1; unfold sizeZ namedB; simp; repeat (first | rfl | omega | split)), rfl⟩
    · skip
      refine sd_see 4 (.bool false) (see_bool kr hc2) ?_
      refine sd_run 7 ?_
      rcases Bool.eq_false_or_eq_true (((op : Int) == 33)) with hc3 | hc3
      · skip
        refine sd_see 4 (.bool true) (see_bool kr hc3) ?_
        refine sd_run 12 ?_
        simp only [decide_eq_true_eq, decide_eq_false_iff_not, beq_iff_eq, beq_eq_false_iff_ne, bne_iff_ne, bne_eq_false_iff_eq, ne_eq, Bool.not_eq_true, Bool.not_eq_false, Bool.not_not, gt_iff_lt, ge_iff_le, Int.not_le, Int.not_lt] at hc1 hc2 hc3
        refine sd_end (.int .i64 2) hX kr kr kr (.int .i64 2) (hq []) (emOf []) (sub_of kr kr True.intro) (rn2_sound _ _ kr) ⟨(by congr 1; unfold sizeZ namedB; simp; repeat (first | rfl | omega | split)), rfl⟩
      · skip
        refine sd_see 4 (.bool false) (see_bool kr hc3) ?_
        refine sd_run 7 ?_
        rcases Bool.eq_false_or_eq_true (((op : Int) == 34)) with hc4 | hc4
        · skip
          refine sd_see 4 (.bool true) (see_bool kr hc4) ?_
          refine sd_run 12 ?_
          simp only [decide_eq_true_eq, decide_eq_false_iff_not, beq_iff_eq, beq_eq_false_iff_ne, bne_iff_ne, bne_eq_false_iff_eq, ne_eq, Bool.not_eq_true, Bool.not_eq_false, Bool.not_not, gt_iff_lt, ge_iff_le, Int.not_le, Int.not_lt] at hc1 hc2 hc3 hc4
          refine sd_end (.int .i64 2) hX kr kr kr (.int .i64 2) (hq []) (emOf []) (sub_of kr kr True.intro) (rn2_sound _ _ kr) ⟨(by congr 1; unfold sizeZ namedB; simp; repeat (first | rfl | omega | split)), rfl⟩
        · skip
          refine sd_see 4 (.bool false) (see_bool kr hc4) ?_
          refine sd_run 7 ?_
          rcases Bool.eq_false_or_eq_true (((op : Int) == 35)) with hc5 | hc5
          · skip
            refine sd_see 4 (.bool true) (see_bool kr hc5) ?_
            refine sd_run 12 ?_
            simp only [decide_eq_true_eq, decide_eq_false_iff_not, beq_iff_eq, beq_eq_false_iff_ne, bne_iff_ne, bne_eq_false_iff_eq, ne_eq, Bool.not_eq_true, Bool.not_eq_false, Bool.not_not, gt_iff_lt, ge_iff_le, Int.not_le, Int.not_lt] at hc1 hc2 hc3 hc4 hc5
            refine sd_end (.int .i64 2) hX kr kr kr (.int .i64 2) (hq []) (emOf []) (sub_of kr kr True.intro) (rn2_sound _ _ kr) ⟨(by congr 1; unfold sizeZ namedB; simp; repeat (first | rfl | omega | split)), rfl⟩
          · skip
            refine sd_see 4 (.bool false) (see_bool kr hc5) ?_
            refine sd_run 7 ?_
            rcases Bool.eq_false_or_eq_true (((op : Int) == 36)) with hc6 | hc6
            · skip
              refine sd_see 4 (.bool true) (see_bool kr hc6) ?_
              refine sd_run 12 ?_
              simp only [decide_eq_true_eq, decide_eq_false_iff_not, beq_iff_eq, beq_eq_false_iff_ne, bne_iff_ne, bne_eq_false_iff_eq, ne_eq, Bool.not_eq_true, Bool.not_eq_false, Bool.not_not, gt_iff_lt, ge_iff_le, Int.not_le, Int.not_lt] at hc1 hc2 hc3 hc4 hc5 hc6
              refine sd_end (.int .i64 2) hX kr kr kr (.int .i64 2) (hq []) (emOf []) (sub_of kr kr True.intro) (rn2_sound _ _ kr) ⟨(by congr 1; unfold sizeZ namedB; simp; repeat (first | rfl | omega | split)), rfl⟩
            · skip
              refine sd_see 4 (.bool false) (see_bool kr hc6) ?_
              refine sd_run 7 ?_
              rcases Bool.eq_false_or_eq_true (((op : Int) == 37)) with hc7 | hc7
              · skip
                refine sd_see 4 (.bool true) (see_bool kr hc7) ?_
                refine sd_run 12 ?_
                simp only [decide_eq_true_eq, decide_eq_false_iff_not, beq_iff_eq, beq_eq_false_iff_ne, bne_iff_ne, bne_eq_false_iff_eq, ne_eq, Bool.not_eq_true, Bool.not_eq_false, Bool.not_not, gt_iff_lt, ge_iff_le, Int.not_le, Int.not_lt] at hc1 hc2 hc3 hc4 hc5 hc6 hc7
                refine sd_end (.int .i64 2) hX kr kr kr (.int .i64 2) (hq []) (emOf []) (sub_of kr kr True.intro) (rn2_sound _ _ kr) ⟨(by congr 1; unfold sizeZ namedB; simp; repeat (first | rfl | omega | split)), rfl⟩
              · skip
                refine sd_see 4 (.bool false) (see_bool kr hc7) ?_
                refine sd_run 7 ?_
                rcases Bool.eq_false_or_eq_true (((op : Int) == 38)) with hc8 | hc8
                · skip
                  refine sd_see 4 (.bool true) (see_bool kr hc8) ?_
                  refine sd_run 12 ?_
                  simp only [decide_eq_true_eq, decide_eq_false_iff_not, beq_iff_eq, beq_eq_false_iff_ne, bne_iff_ne, bne_eq_false_iff_eq, ne_eq, Bool.not_eq_true, Bool.not_eq_false, Bool.not_not, gt_iff_lt, ge_iff_le, Int.not_le, Int.not_lt] at hc1 hc2 hc3 hc4 hc5 hc6 hc7 hc8
                  refine sd_end (.int .i64 2) hX kr kr kr (.int .i64 2) (hq []) (emOf []) (sub_of kr kr True.intro) (rn2_sound _ _ kr) ⟨(by congr 1; unfold sizeZ namedB; simp; repeat (first | rfl | omega | split)), rfl⟩
                · skip
                  refine sd_see 4 (.bool false) (see_bool kr hc8) ?_
                  refine sd_run 7 ?_
                  rcases Bool.eq_false_or_eq_true (((op : Int) == 66)) with hc9 | hc9
                  · skip
                    refine sd_see 4 (.bool true) (see_bool kr hc9) ?_
                    refine sd_run 12 ?_
                    simp only [decide_eq_true_eq, decide_eq_false_iff_not, beq_iff_eq, beq_eq_false_iff_ne, bne_iff_ne, bne_eq_false_iff_eq, ne_eq, Bool.not_eq_true, Bool.not_eq_false, Bool.not_not, gt_iff_lt, ge_iff_le, Int.not_le, Int.not_lt] at hc1 hc2 hc3 hc4 hc5 hc6 hc7 hc8 hc9
                    refine sd_end (.int .i64 2) hX kr kr kr (.int .i64 2) (hq []) (emOf []) (sub_of kr kr True.intro) (rn2_sound _ _ kr) ⟨(by congr 1; unfold sizeZ namedB; simp; repeat (first | rfl | omega | split)), rfl⟩
                  · skip
                    refine sd_see 4 (.bool false) (see_bool kr hc9) ?_
                    refine sd_run 6 ?_
                    rcases Bool.eq_false_or_eq_true (((op : Int) == 67)) with hc10 | hc10
                    · skip
                      refine sd_see 4 (.bool true) (see_bool kr hc10) ?_
                      refine sd_run 9 ?_
                      simp only [decide_eq_true_eq, decide_eq_false_iff_not, beq_iff_eq, beq_eq_false_iff_ne, bne_iff_ne, bne_eq_false_iff_eq, ne_eq, Bool.not_eq_true, Bool.not_eq_false, Bool.not_not, gt_iff_lt, ge_iff_le, Int.not_le, Int.not_lt] at hc1 hc2 hc3 hc4 hc5 hc6 hc7 hc8 hc9 hc10
                      refine sd_end (.int .i64 2) hX kr kr kr (.int .i64 2) (hq []) (emOf []) (sub_of kr kr True.intro) (rn2_sound _ _ kr) ⟨(by congr 1; unfold sizeZ namedB; simp; repeat (first | rfl | omega | split)), rfl⟩
                    · skip
                      refine sd_see 4 (.bool false) (see_bool kr hc10) ?_
                      refine sd_run 7 ?_
                      rcases Bool.eq_false_or_eq_true (((op : Int) == 2)) with hc11 | hc11
                      · skip
                        refine sd_see 15 (.bool true) (see_bool kr hc11) ?_
                        refine sd_run 9 ?_
                        simp only [decide_eq_true_eq, decide_eq_false_iff_not, beq_iff_eq, beq_eq_false_iff_ne, bne_iff_ne, bne_eq_false_iff_eq, ne_eq, Bool.not_eq_true, Bool.not_eq_false, Bool.not_not, gt_iff_lt, ge_iff_le, Int.not_le, Int.not_lt] at hc1 hc2 hc3 hc4 hc5 hc6 hc7 hc8 hc9 hc10 hc11
                        refine sd_end (.int .i64 5) hX kr kr kr (.int .i64 5) (hq []) (emOf []) (sub_of kr kr True.intro) (rn2_sound _ _ kr) ⟨(by congr 1; unfold sizeZ namedB; simp; repeat (first | rfl | omega | split)), rfl⟩
                      · skip
                        refine sd_see 15 (.bool false) (see_bool kr hc11) ?_
                        refine sd_run 27 ?_
                        rcases Bool.eq_false_or_eq_true (((op : Int) == 0)) with hc12 | hc12
                        · skip
                          refine sd_see 4 (.bool true) (see_bool kr hc12) ?_
                          refine sd_run 22 ?_
                          simp only [decide_eq_true_eq, decide_eq_false_iff_not, beq_iff_eq, beq_eq_false_iff_ne, bne_iff_ne, bne_eq_false_iff_eq, ne_eq, Bool.not_eq_true, Bool.not_eq_false, Bool.not_not, gt_iff_lt, ge_iff_le, Int.not_le, Int.not_lt] at hc1 hc2 hc3 hc4 hc5 hc6 hc7 hc8 hc9 hc10 hc11 hc12
                          refine sd_end (.int .i64 1) hX kr kr kr (.int .i64 1) (hq []) (emOf []) (sub_of kr kr True.intro) (rn2_sound _ _ kr) ⟨(by congr 1; unfold sizeZ namedB; simp; repeat (first | rfl | omega | split)), rfl⟩
                        · skip
                          refine sd_see 4 (.bool false) (see_bool kr hc12) ?_
                          refine sd_run 7 ?_
                          refine sd_see 6 (.bool false) (see_bool kr (hc1 : (((op : Int) == 1)) = false)) ?_
                          refine sd_run 7 ?_
                          refine sd_see 8 (.bool false) (see_bool kr (hc11 : (((op : Int) == 2)) = false)) ?_
                          refine sd_run 7 ?_
                          rcases Bool.eq_false_or_eq_true (((op : Int) == 3)) with hc13 | hc13
                          · skip
                            refine sd_see 10 (.bool true) (see_bool kr hc13) ?_
                            refine sd_run 22 ?_
                            simp only [decide_eq_true_eq, decide_eq_false_iff_not, beq_iff_eq, beq_eq_false_iff_ne, bne_iff_ne, bne_eq_false_iff_eq, ne_eq, Bool.not_eq_true, Bool.not_eq_false, Bool.not_not, gt_iff_lt, ge_iff_le, Int.not_le, Int.not_lt] at hc1 hc2 hc3 hc4 hc5 hc6 hc7 hc8 hc9 hc10 hc11 hc12 hc13
                            refine sd_end (.int .i64 1) hX kr kr kr (.int .i64 1) (hq []) (emOf []) (sub_of kr kr True.intro) (rn2_sound _ _ kr) ⟨(by congr 1; unfold sizeZ namedB; simp; repeat (first | rfl | omega | split)), rfl⟩
                          · skip
                            refine sd_see 10 (.bool false) (see_bool kr hc13) ?_
                            refine sd_run 7 ?_
                            rcases Bool.eq_false_or_eq_true (((op : Int) == 4)) with hc14 | hc14
                            · skip
                              refine sd_see 12 (.bool true) (see_bool kr hc14) ?_
                              refine sd_run 22 ?_
                              simp only [decide_eq_true_eq, decide_eq_false_iff_not, beq_iff_eq, beq_eq_false_iff_ne, bne_iff_ne, bne_eq_false_iff_eq, ne_eq, Bool.not_eq_true, Bool.not_eq_false, Bool.not_not, gt_iff_lt, ge_iff_le, Int.not_le, Int.not_lt] at hc1 hc2 hc3 hc4 hc5 hc6 hc7 hc8 hc9 hc10 hc11 hc12 hc13 hc14
                              refine sd_end (.int .i64 1) hX kr kr kr (.int .i64 1) (hq []) (emOf []) (sub_of kr kr True.intro) (rn2_sound _ _ kr) ⟨(by congr 1; unfold sizeZ namedB; simp; repeat (first | rfl | omega | split)), rfl⟩
                            · skip
                              refine sd_see 12 (.bool false) (see_bool kr hc14) ?_
                              refine sd_run 7 ?_
                              rcases Bool.eq_false_or_eq_true (((op : Int) == 5)) with hc15 | hc15
                              · skip
                                refine sd_see 14 (.bool true) (see_bool kr hc15) ?_
                                refine sd_run 22 ?_
                                simp only [decide_eq_true_eq, decide_eq_false_iff_not, beq_iff_eq, beq_eq_false_iff_ne, bne_iff_ne, bne_eq_false_iff_eq, ne_eq, Bool.not_eq_true, Bool.not_eq_false, Bool.not_not, gt_iff_lt, ge_iff_le, Int.not_le, Int.not_lt] at hc1 hc2 hc3 hc4 hc5 hc6 hc7 hc8 hc9 hc10 hc11 hc12 hc13 hc14 hc15
                                refine sd_end (.int .i64 1) hX kr kr kr (.int .i64 1) (hq []) (emOf []) (sub_of kr kr True.intro) (rn2_sound _ _ kr) ⟨(by congr 1; unfold sizeZ namedB; simp; repeat (first | rfl | omega | split)), rfl⟩
                              · skip
                                refine sd_see 14 (.bool false) (see_bool kr hc15) ?_
                                refine sd_run 7 ?_
                                rcases Bool.eq_false_or_eq_true (((op : Int) == 6)) with hc16 | hc16
                                · skip
                                  refine sd_see 16 (.bool true) (see_bool kr hc16) ?_
                                  refine sd_run 22 ?_
                                  simp only [decide_eq_true_eq, decide_eq_false_iff_not, beq_iff_eq, beq_eq_false_iff_ne, bne_iff_ne, bne_eq_false_iff_eq, ne_eq, Bool.not_eq_true, Bool.not_eq_false, Bool.not_not, gt_iff_lt, ge_iff_le, Int.not_le, Int.not_lt] at hc1 hc2 hc3 hc4 hc5 hc6 hc7 hc8 hc9 hc10 hc11 hc12 hc13 hc14 hc15 hc16
                                  refine sd_end (.int .i64 1) hX kr kr kr (.int .i64 1) (hq []) (emOf []) (sub_of kr kr True.intro) (rn2_sound _ _ kr) ⟨(by congr 1; unfold sizeZ namedB; simp; repeat (first | rfl | omega | split)), rfl⟩
                                · skip
                                  refine sd_see 16 (.bool false) (see_bool kr hc16) ?_
                                  refine sd_run 7 ?_
                                  rcases Bool.eq_false_or_eq_true (((op : Int) == 7)) with hc17 | hc17
                                  · skip
                                    refine sd_see 18 (.bool true) (see_bool kr hc17) ?_
                                    refine sd_run 22 ?_
                                    simp only [decide_eq_true_eq, decide_eq_false_iff_not, beq_iff_eq, beq_eq_false_iff_ne, bne_iff_ne, bne_eq_false_iff_eq, ne_eq, Bool.not_eq_true, Bool.not_eq_false, Bool.not_not, gt_iff_lt, ge_iff_le, Int.not_le, Int.not_lt] at hc1 hc2 hc3 hc4 hc5 hc6 hc7 hc8 hc9 hc10 hc11 hc12 hc13 hc14 hc15 hc16 hc17
                                    refine sd_end (.int .i64 1) hX kr kr kr (.int .i64 1) (hq []) (emOf []) (sub_of kr kr True.intro) (rn2_sound _ _ kr) ⟨(by congr 1; unfold sizeZ namedB; simp; repeat (first | rfl | omega | split)), rfl⟩
                                  · skip
                                    refine sd_see 18 (.bool false) (see_bool kr hc17) ?_
                                    refine sd_run 7 ?_
                                    rcases Bool.eq_false_or_eq_true (((op : Int) == 8)) with hc18 | hc18
                                    · skip
                                      refine sd_see 20 (.bool true) (see_bool kr hc18) ?_
                                      refine sd_run 22 ?_
                                      simp only [decide_eq_true_eq, decide_eq_false_iff_not, beq_iff_eq, beq_eq_false_iff_ne, bne_iff_ne, bne_eq_false_iff_eq, ne_eq, Bool.not_eq_true, Bool.not_eq_false, Bool.not_not, gt_iff_lt, ge_iff_le, Int.not_le, Int.not_lt] at hc1 hc2 hc3 hc4 hc5 hc6 hc7 hc8 hc9 hc10 hc11 hc12 hc13 hc14 hc15 hc16 hc17 hc18
                                      refine sd_end (.int .i64 1) hX kr kr kr (.int .i64 1) (hq []) (emOf []) (sub_of kr kr True.intro) (rn2_sound _ _ kr) ⟨(by congr 1; unfold sizeZ namedB; simp; repeat (first | rfl | omega | split)), rfl⟩
                                    · skip
                                      refine sd_see 20 (.bool false) (see_bool kr hc18) ?_
                                      refine sd_run 7 ?_
                                      refine sd_see 22 (.bool false) (see_bool kr (hc2 : (((op : Int) == 32)) = false)) ?_
                                      refine sd_run 7 ?_
                                      refine sd_see 24 (.bool false) (see_bool kr (hc3 : (((op : Int) == 33)) = false)) ?_
                                      refine sd_run 7 ?_
                                      refine sd_see 26 (.bool false) (see_bool kr (hc4 : (((op : Int) == 34)) = false)) ?_
                                      refine sd_run 7 ?_
                                      refine sd_see 28 (.bool false) (see_bool kr (hc5 : (((op : Int) == 35)) = false)) ?_
                                      refine sd_run 7 ?_
                                      refine sd_see 30 (.bool false) (see_bool kr (hc6 : (((op : Int) == 36)) = false)) ?_
                                      refine sd_run 7 ?_
                                      refine sd_see 32 (.bool false) (see_bool kr (hc7 : (((op : Int) == 37)) = false)) ?_
                                      refine sd_run 7 ?_
                                      refine sd_see 34 (.bool false) (see_bool kr (hc8 : (((op : Int) == 38)) = false)) ?_
                                      refine sd_run 7 ?_
                                      rcases Bool.eq_false_or_eq_true (((op : Int) == 39)) with hc19 | hc19
                                      · skip
                                        refine sd_see 36 (.bool true) (see_bool kr hc19) ?_
                                        refine sd_run 22 ?_
                                        simp only [decide_eq_true_eq, decide_eq_false_iff_not, beq_iff_eq, beq_eq_false_iff_ne, bne_iff_ne, bne_eq_false_iff_eq, ne_eq, Bool.not_eq_true, Bool.not_eq_false, Bool.not_not, gt_iff_lt, ge_iff_le, Int.not_le, Int.not_lt] at hc1 hc2 hc3 hc4 hc5 hc6 hc7 hc8 hc9 hc10 hc11 hc12 hc13 hc14 hc15 hc16 hc17 hc18 hc19
                                        refine sd_end (.int .i64 1) hX kr kr kr (.int .i64 1) (hq []) (emOf []) (sub_of kr kr True.intro) (rn2_sound _ _ kr) ⟨(by congr 1; unfold sizeZ namedB; simp; repeat (first | rfl | omega | split)), rfl⟩
                                      · skip
                                        refine sd_see 36 (.bool false) (see_bool kr hc19) ?_
                                        refine sd_run 7 ?_
                                        rcases Bool.eq_false_or_eq_true (((op : Int) == 40)) with hc20 | hc20
                                        · skip
                                          refine sd_see 38 (.bool true) (see_bool kr hc20) ?_
                                          refine sd_run 22 ?_
                                          simp only [decide_eq_true_eq, decide_eq_false_iff_not, beq_iff_eq, beq_eq_false_iff_ne, bne_iff_ne, bne_eq_false_iff_eq, ne_eq, Bool.not_eq_true, Bool.not_eq_false, Bool.not_not, gt_iff_lt, ge_iff_le, Int.not_le, Int.not_lt] at hc1 hc2 hc3 hc4 hc5 hc6 hc7 hc8 hc9 hc10 hc11 hc12 hc13 hc14 hc15 hc16 hc17 hc18 hc19 hc20
                                          refine sd_end (.int .i64 1) hX kr kr kr (.int .i64 1) (hq []) (emOf []) (sub_of kr kr True.intro) (rn2_sound _ _ kr) ⟨(by congr 1; unfold sizeZ namedB; simp; repeat (first | rfl | omega | split)), rfl⟩
                                        · skip
                                          refine sd_see 38 (.bool false) (see_bool kr hc20) ?_
                                          refine sd_run 26 ?_
                                          rcases Bool.eq_false_or_eq_true (((op : Int) == 16)) with hc21 | hc21
                                          · skip
                                            refine sd_see 4 (.bool true) (see_bool kr hc21) ?_
                                            refine sd_run 27 ?_
                                            simp only [decide_eq_true_eq, decide_eq_false_iff_not, beq_iff_eq, beq_eq_false_iff_ne, bne_iff_ne, bne_eq_false_iff_eq, ne_eq, Bool.not_eq_true, Bool.not_eq_false, Bool.not_not, gt_iff_lt, ge_iff_le, Int.not_le, Int.not_lt] at hc1 hc2 hc3 hc4 hc5 hc6 hc7 hc8 hc9 hc10 hc11 hc12 hc13 hc14 hc15 hc16 hc17 hc18 hc19 hc20 hc21
                                            refine sd_end (.int .i64 1) hX kr kr kr (.int .i64 1) (hq []) (emOf []) (sub_of kr kr True.intro) (rn2_sound _ _ kr) ⟨(by congr 1; unfold sizeZ namedB; simp; repeat (first | rfl | omega | split)), rfl⟩
                                          · skip
                                            refine sd_see 4 (.bool false) (see_bool kr hc21) ?_
                                            refine sd_run 7 ?_
                                            rcases Bool.eq_false_or_eq_true (((op : Int) == 17)) with hc22 | hc22
                                            · skip
                                              refine sd_see 6 (.bool true) (see_bool kr hc22) ?_
                                              refine sd_run 27 ?_
                                              simp only [decide_eq_true_eq, decide_eq_false_iff_not, beq_iff_eq, beq_eq_false_iff_ne, bne_iff_ne, bne_eq_false_iff_eq, ne_eq, Bool.not_eq_true, Bool.not_eq_false, Bool.not_not, gt_iff_lt, ge_iff_le, Int.not_le, Int.not_lt] at hc1 hc2 hc3 hc4 hc5 hc6 hc7 hc8 hc9 hc10 hc11 hc12 hc13 hc14 hc15 hc16 hc17 hc18 hc19 hc20 hc21 hc22
                                              refine sd_end (.int .i64 1) hX kr kr kr (.int .i64 1) (hq []) (emOf []) (sub_of kr kr True.intro) (rn2_sound _ _ kr) ⟨(by congr 1; unfold sizeZ namedB; simp; repeat (first | rfl | omega | split)), rfl⟩
                                            · skip
                                              refine sd_see 6 (.bool false) (see_bool kr hc22) ?_
                                              refine sd_run 7 ?_
                                              rcases Bool.eq_false_or_eq_true (((op : Int) == 18)) with hc23 | hc23
                                              · skip
                                                refine sd_see 8 (.bool true) (see_bool kr hc23) ?_
                                                refine sd_run 27 ?_
                                                simp only [decide_eq_true_eq, decide_eq_false_iff_not, beq_iff_eq, beq_eq_false_iff_ne, bne_iff_ne, bne_eq_false_iff_eq, ne_eq, Bool.not_eq_true, Bool.not_eq_false, Bool.not_not, gt_iff_lt, ge_iff_le, Int.not_le, Int.not_lt] at hc1 hc2 hc3 hc4 hc5 hc6 hc7 hc8 hc9 hc10 hc11 hc12 hc13 hc14 hc15 hc16 hc17 hc18 hc19 hc20 hc21 hc22 hc23
                                                refine sd_end (.int .i64 1) hX kr kr kr (.int .i64 1) (hq []) (emOf []) (sub_of kr kr True.intro) (rn2_sound _ _ kr) ⟨(by congr 1; unfold sizeZ namedB; simp; repeat (first | rfl | omega | split)), rfl⟩
                                              · skip
                                                refine sd_see 8 (.bool false) (see_bool kr hc23) ?_
                                                refine sd_run 7 ?_
                                                rcases Bool.eq_false_or_eq_true (((op : Int) == 19)) with hc24 | hc24
                                                · skip
                                                  refine sd_see 10 (.bool true) (see_bool kr hc24) ?_
                                                  refine sd_run 27 ?_
                                                  simp only [decide_eq_true_eq, decide_eq_false_iff_not, beq_iff_eq, beq_eq_false_iff_ne, bne_iff_ne, bne_eq_false_iff_eq, ne_eq, Bool.not_eq_true, Bool.not_eq_false, Bool.not_not, gt_iff_lt, ge_iff_le, Int.not_le, Int.not_lt] at hc1 hc2 hc3 hc4 hc5 hc6 hc7 hc8 hc9 hc10 hc11 hc12 hc13 hc14 hc15 hc16 hc17 hc18 hc19 hc20 hc21 hc22 hc23 hc24
                                                  refine sd_end (.int .i64 1) hX kr kr kr (.int .i64 1) (hq []) (emOf []) (sub_of kr kr True.intro) (rn2_sound _ _ kr) ⟨(by congr 1; unfold sizeZ namedB; simp; repeat (first | rfl | omega | split)), rfl⟩
                                                · skip
                                                  refine sd_see 10 (.bool false) (see_bool kr hc24) ?_
                                                  refine sd_run 7 ?_
                                                  rcases Bool.eq_false_or_eq_true (((op : Int) == 20)) with hc25 | hc25
                                                  · skip
                                                    refine sd_see 12 (.bool true) (see_bool kr hc25) ?_
                                                    refine sd_run 27 ?_
                                                    simp only [decide_eq_true_eq, decide_eq_false_iff_not, beq_iff_eq, beq_eq_false_iff_ne, bne_iff_ne, bne_eq_false_iff_eq, ne_eq, Bool.not_eq_true, Bool.not_eq_false, Bool.not_not, gt_iff_lt, ge_iff_le, Int.not_le, Int.not_lt] at hc1 hc2 hc3 hc4 hc5 hc6 hc7 hc8 hc9 hc10 hc11 hc12 hc13 hc14 hc15 hc16 hc17 hc18 hc19 hc20 hc21 hc22 hc23 hc24 hc25
                                                    refine sd_end (.int .i64 1) hX kr kr kr (.int .i64 1) (hq []) (emOf []) (sub_of kr kr True.intro) (rn2_sound _ _ kr) ⟨(by congr 1; unfold sizeZ namedB; simp; repeat (first | rfl | omega | split)), rfl⟩
                                                  · skip
                                                    refine sd_see 12 (.bool false) (see_bool kr hc25) ?_
                                                    refine sd_run 7 ?_
                                                    rcases Bool.eq_false_or_eq_true (((op : Int) == 21)) with hc26 | hc26
                                                    · skip
                                                      refine sd_see 14 (.bool true) (see_bool kr hc26) ?_
                                                      refine sd_run 27 ?_
                                                      simp only [decide_eq_true_eq, decide_eq_false_iff_not, beq_iff_eq, beq_eq_false_iff_ne, bne_iff_ne, bne_eq_false_iff_eq, ne_eq, Bool.not_eq_true, Bool.not_eq_false, Bool.not_not, gt_iff_lt, ge_iff_le, Int.not_le, Int.not_lt] at hc1 hc2 hc3 hc4 hc5 hc6 hc7 hc8 hc9 hc10 hc11 hc12 hc13 hc14 hc15 hc16 hc17 hc18 hc19 hc20 hc21 hc22 hc23 hc24 hc25 hc26
                                                      refine sd_end (.int .i64 1) hX kr kr kr (.int .i64 1) (hq []) (emOf []) (sub_of kr kr True.intro) (rn2_sound _ _ kr) ⟨(by congr 1; unfold sizeZ namedB; simp; repeat (first | rfl | omega | split)), rfl⟩
                                                    · skip
                                                      refine sd_see 14 (.bool false) (see_bool kr hc26) ?_
                                                      refine sd_run 7 ?_
                                                      rcases Bool.eq_false_or_eq_true (((op : Int) == 22)) with hc27 | hc27
                                                      · skip
                                                        refine sd_see 16 (.bool true) (see_bool kr hc27) ?_
                                                        refine sd_run 27 ?_
                                                        simp only [decide_eq_true_eq, decide_eq_false_iff_not, beq_iff_eq, beq_eq_false_iff_ne, bne_iff_ne, bne_eq_false_iff_eq, ne_eq, Bool.not_eq_true, Bool.not_eq_false, Bool.not_not, gt_iff_lt, ge_iff_le, Int.not_le, Int.not_lt] at hc1 hc2 hc3 hc4 hc5 hc6 hc7 hc8 hc9 hc10 hc11 hc12 hc13 hc14 hc15 hc16 hc17 hc18 hc19 hc20 hc21 hc22 hc23 hc24 hc25 hc26 hc27
                                                        refine sd_end (.int .i64 1) hX kr kr kr (.int .i64 1) (hq []) (emOf []) (sub_of kr kr True.intro) (rn2_sound _ _ kr) ⟨(by congr 1; unfold sizeZ namedB; simp; repeat (first | rfl | omega | split)), rfl⟩
                                                      · skip
                                                        refine sd_see 16 (.bool false) (see_bool kr hc27) ?_
                                                        refine sd_run 7 ?_
                                                        rcases Bool.eq_false_or_eq_true (((op : Int) == 23)) with hc28 | hc28
                                                        · skip
                                                          refine sd_see 18 (.bool true) (see_bool kr hc28) ?_
                                                          refine sd_run 27 ?_
                                                          simp only [decide_eq_true_eq, decide_eq_false_iff_not, beq_iff_eq, beq_eq_false_iff_ne, bne_iff_ne, bne_eq_false_iff_eq, ne_eq, Bool.not_eq_true, Bool.not_eq_false, Bool.not_not, gt_iff_lt, ge_iff_le, Int.not_le, Int.not_lt] at hc1 hc2 hc3 hc4 hc5 hc6 hc7 hc8 hc9 hc10 hc11 hc12 hc13 hc14 hc15 hc16 hc17 hc18 hc19 hc20 hc21 hc22 hc23 hc24 hc25 hc26 hc27 hc28
                                                          refine sd_end (.int .i64 1) hX kr kr kr (.int .i64 1) (hq []) (emOf []) (sub_of kr kr True.intro) (rn2_sound _ _ kr) ⟨(by congr 1; unfold sizeZ namedB; simp; repeat (first | rfl | omega | split)), rfl⟩
                                                        · skip
                                                          refine sd_see 18 (.bool false) (see_bool kr hc28) ?_
                                                          refine sd_run 7 ?_
                                                          rcases Bool.eq_false_or_eq_true (((op : Int) == 24)) with hc29 | hc29
                                                          · skip
                                                            refine sd_see 20 (.bool true) (see_bool kr hc29) ?_
                                                            refine sd_run 27 ?_
                                                            simp only [decide_eq_true_eq, decide_eq_false_iff_not, beq_iff_eq, beq_eq_false_iff_ne, bne_iff_ne, bne_eq_false_iff_eq, ne_eq, Bool.not_eq_true, Bool.not_eq_false, Bool.not_not, gt_iff_lt, ge_iff_le, Int.not_le, Int.not_lt] at hc1 hc2 hc3 hc4 hc5 hc6 hc7 hc8 hc9 hc10 hc11 hc12 hc13 hc14 hc15 hc16 hc17 hc18 hc19 hc20 hc21 hc22 hc23 hc24 hc25 hc26 hc27 hc28 hc29
                                                            refine sd_end (.int .i64 1) hX kr kr kr (.int .i64 1) (hq []) (emOf []) (sub_of kr kr True.intro) (rn2_sound _ _ kr) ⟨(by congr 1; unfold sizeZ namedB; simp; repeat (first | rfl | omega | split)), rfl⟩
                                                          · skip
                                                            refine sd_see 20 (.bool false) (see_bool kr hc29) ?_
                                                            refine sd_run 7 ?_
                                                            rcases Bool.eq_false_or_eq_true (((op : Int) == 25)) with hc30 | hc30
                                                            · skip
                                                              refine sd_see 22 (.bool true) (see_bool kr hc30) ?_
                                                              refine sd_run 27 ?_
                                                              simp only [decide_eq_true_eq, decide_eq_false_iff_not, beq_iff_eq, beq_eq_false_iff_ne, bne_iff_ne, bne_eq_false_iff_eq, ne_eq, Bool.not_eq_true, Bool.not_eq_false, Bool.not_not, gt_iff_lt, ge_iff_le, Int.not_le, Int.not_lt] at hc1 hc2 hc3 hc4 hc5 hc6 hc7 hc8 hc9 hc10 hc11 hc12 hc13 hc14 hc15 hc16 hc17 hc18 hc19 hc20 hc21 hc22 hc23 hc24 hc25 hc26 hc27 hc28 hc29 hc30
                                                              refine sd_end (.int .i64 1) hX kr kr kr (.int .i64 1) (hq []) (emOf []) (sub_of kr kr True.intro) (rn2_sound _ _ kr) ⟨(by congr 1; unfold sizeZ namedB; simp; repeat (first | rfl | omega | split)), rfl⟩
                                                            · skip
                                                              refine sd_see 22 (.bool false) (see_bool kr hc30) ?_
                                                              refine sd_run 7 ?_
                                                              rcases Bool.eq_false_or_eq_true (((op : Int) == 48)) with hc31 | hc31
                                                              · skip
                                                                refine sd_see 24 (.bool true) (see_bool kr hc31) ?_
                                                                refine sd_run 27 ?_
                                                                simp only [decide_eq_true_eq, decide_eq_false_iff_not, beq_iff_eq, beq_eq_false_iff_ne, bne_iff_ne, bne_eq_false_iff_eq, ne_eq, Bool.not_eq_true, Bool.not_eq_false, Bool.not_not, gt_iff_lt, ge_iff_le, Int.not_le, Int.not_lt] at hc1 hc2 hc3 hc4 hc5 hc6 hc7 hc8 hc9 hc10 hc11 hc12 hc13 hc14 hc15 hc16 hc17 hc18 hc19 hc20 hc21 hc22 hc23 hc24 hc25 hc26 hc27 hc28 hc29 hc30 hc31
                                                                refine sd_end (.int .i64 1) hX kr kr kr (.int .i64 1) (hq []) (emOf []) (sub_of kr kr True.intro) (rn2_sound _ _ kr) ⟨(by congr 1; unfold sizeZ namedB; simp; repeat (first | rfl | omega | split)), rfl⟩
                                                              · skip
                                                                refine sd_see 24 (.bool false) (see_bool kr hc31) ?_
                                                                refine sd_run 7 ?_
                                                                rcases Bool.eq_false_or_eq_true (((op : Int) == 49)) with hc32 | hc32
                                                                · skip
                                                                  refine sd_see 26 (.bool true) (see_bool kr hc32) ?_
                                                                  refine sd_run 27 ?_
                                                                  simp only [decide_eq_true_eq, decide_eq_false_iff_not, beq_iff_eq, beq_eq_false_iff_ne, bne_iff_ne, bne_eq_false_iff_eq, ne_eq, Bool.not_eq_true, Bool.not_eq_false, Bool.not_not, gt_iff_lt, ge_iff_le, Int.not_le, Int.not_lt] at hc1 hc2 hc3 hc4 hc5 hc6 hc7 hc8 hc9 hc10 hc11 hc12 hc13 hc14 hc15 hc16 hc17 hc18 hc19 hc20 hc21 hc22 hc23 hc24 hc25 hc26 hc27 hc28 hc29 hc30 hc31 hc32
                                                                  refine sd_end (.int .i64 1) hX kr kr kr (.int .i64 1) (hq []) (emOf []) (sub_of kr kr True.intro) (rn2_sound _ _ kr) ⟨(by congr 1; unfold sizeZ namedB; simp; repeat (first | rfl | omega | split)), rfl⟩
                                                                · skip
                                                                  refine sd_see 26 (.bool false) (see_bool kr hc32) ?_
                                                                  refine sd_run 7 ?_
                                                                  rcases Bool.eq_false_or_eq_true (((op : Int) == 50)) with hc33 | hc33
                                                                  · skip
                                                                    refine sd_see 28 (.bool true) (see_bool kr hc33) ?_
                                                                    refine sd_run 27 ?_
                                                                    simp only [decide_eq_true_eq, decide_eq_false_iff_not, beq_iff_eq, beq_eq_false_iff_ne, bne_iff_ne, bne_eq_false_iff_eq, ne_eq, Bool.not_eq_true, Bool.not_eq_false, Bool.not_not, gt_iff_lt, ge_iff_le, Int.not_le, Int.not_lt] at hc1 hc2 hc3 hc4 hc5 hc6 hc7 hc8 hc9 hc10 hc11 hc12 hc13 hc14 hc15 hc16 hc17 hc18 hc19 hc20 hc21 hc22 hc23 hc24 hc25 hc26 hc27 hc28 hc29 hc30 hc31 hc32 hc33
                                                                    refine sd_end (.int .i64 1) hX kr kr kr (.int .i64 1) (hq []) (emOf []) (sub_of kr kr True.intro) (rn2_sound _ _ kr) ⟨(by congr 1; unfold sizeZ namedB; simp; repeat (first | rfl | omega | split)), rfl⟩
                                                                  · skip
                                                                    refine sd_see 28 (.bool false) (see_bool kr hc33) ?_
                                                                    refine sd_run 7 ?_
                                                                    rcases Bool.eq_false_or_eq_true (((op : Int) == 51)) with hc34 | hc34
                                                                    · skip
                                                                      refine sd_see 30 (.bool true) (see_bool kr hc34) ?_
                                                                      refine sd_run 27 ?_
                                                                      simp only [decide_eq_true_eq, decide_eq_false_iff_not, beq_iff_eq, beq_eq_false_iff_ne, bne_iff_ne, bne_eq_false_iff_eq, ne_eq, Bool.not_eq_true, Bool.not_eq_false, Bool.not_not, gt_iff_lt, ge_iff_le, Int.not_le, Int.not_lt] at hc1 hc2 hc3 hc4 hc5 hc6 hc7 hc8 hc9 hc10 hc11 hc12 hc13 hc14 hc15 hc16 hc17 hc18 hc19 hc20 hc21 hc22 hc23 hc24 hc25 hc26 hc27 hc28 hc29 hc30 hc31 hc32 hc33 hc34
                                                                      refine sd_end (.int .i64 1) hX kr kr kr (.int .i64 1) (hq []) (emOf []) (sub_of kr kr True.intro) (rn2_sound _ _ kr) ⟨(by congr 1; unfold sizeZ namedB; simp; repeat (first | rfl | omega | split)), rfl⟩
                                                                    · skip
                                                                      refine sd_see 30 (.bool false) (see_bool kr hc34) ?_
                                                                      refine sd_run 7 ?_
                                                                      rcases Bool.eq_false_or_eq_true (((op : Int) == 52)) with hc35 | hc35
                                                                      · skip
                                                                        refine sd_see 32 (.bool true) (see_bool kr hc35) ?_
                                                                        refine sd_run 27 ?_
                                                                        simp only [decide_eq_true_eq, decide_eq_false_iff_not, beq_iff_eq, beq_eq_false_iff_ne, bne_iff_ne, bne_eq_false_iff_eq, ne_eq, Bool.not_eq_true, Bool.not_eq_false, Bool.not_not, gt_iff_lt, ge_iff_le, Int.not_le, Int.not_lt] at hc1 hc2 hc3 hc4 hc5 hc6 hc7 hc8 hc9 hc10 hc11 hc12 hc13 hc14 hc15 hc16 hc17 hc18 hc19 hc20 hc21 hc22 hc23 hc24 hc25 hc26 hc27 hc28 hc29 hc30 hc31 hc32 hc33 hc34 hc35
                                                                        refine sd_end (.int .i64 1) hX kr kr kr (.int .i64 1) (hq []) (emOf []) (sub_of kr kr True.intro) (rn2_sound _ _ kr) ⟨(by congr 1; unfold sizeZ namedB; simp; repeat (first | rfl | omega | split)), rfl⟩
                                                                      · skip
                                                                        refine sd_see 32 (.bool false) (see_bool kr hc35) ?_
                                                                        refine sd_run 7 ?_
                                                                        rcases Bool.eq_false_or_eq_true (((op : Int) == 53)) with hc36 | hc36
                                                                        · skip
                                                                          refine sd_see 34 (.bool true) (see_bool kr hc36) ?_
                                                                          refine sd_run 27 ?_
                                                                          simp only [decide_eq_true_eq, decide_eq_false_iff_not, beq_iff_eq, beq_eq_false_iff_ne, bne_iff_ne, bne_eq_false_iff_eq, ne_eq, Bool.not_eq_true, Bool.not_eq_false, Bool.not_not, gt_iff_lt, ge_iff_le, Int.not_le, Int.not_lt] at hc1 hc2 hc3 hc4 hc5 hc6 hc7 hc8 hc9 hc10 hc11 hc12 hc13 hc14 hc15 hc16 hc17 hc18 hc19 hc20 hc21 hc22 hc23 hc24 hc25 hc26 hc27 hc28 hc29 hc30 hc31 hc32 hc33 hc34 hc35 hc36
                                                                          refine sd_end (.int .i64 1) hX kr kr kr (.int .i64 1) (hq []) (emOf []) (sub_of kr kr True.intro) (rn2_sound _ _ kr) ⟨(by congr 1; unfold sizeZ namedB; simp; repeat (first | rfl | omega | split)), rfl⟩
                                                                        · skip
                                                                          refine sd_see 34 (.bool false) (see_bool kr hc36) ?_
                                                                          refine sd_run 7 ?_
                                                                          rcases Bool.eq_false_or_eq_true (((op : Int) == 64)) with hc37 | hc37
                                                                          · skip
                                                                            refine sd_see 36 (.bool true) (see_bool kr hc37) ?_
                                                                            refine sd_run 27 ?_
                                                                            simp only [decide_eq_true_eq, decide_eq_false_iff_not, beq_iff_eq, beq_eq_false_iff_ne, bne_iff_ne, bne_eq_false_iff_eq, ne_eq, Bool.not_eq_true, Bool.not_eq_false, Bool.not_not, gt_iff_lt, ge_iff_le, Int.not_le, Int.not_lt] at hc1 hc2 hc3 hc4 hc5 hc6 hc7 hc8 hc9 hc10 hc11 hc12 hc13 hc14 hc15 hc16 hc17 hc18 hc19 hc20 hc21 hc22 hc23 hc24 hc25 hc26 hc27 hc28 hc29 hc30 hc31 hc32 hc33 hc34 hc35 hc36 hc37
                                                                            refine sd_end (.int .i64 1) hX kr kr kr (.int .i64 1) (hq []) (emOf []) (sub_of kr kr True.intro) (rn2_sound _ _ kr) ⟨(by congr 1; unfold sizeZ namedB; simp; repeat (first | rfl | omega | split)), rfl⟩
                                                                          · skip
                                                                            refine sd_see 36 (.bool false) (see_bool kr hc37) ?_
                                                                            refine sd_run 7 ?_
                                                                            rcases Bool.eq_false_or_eq_true (((op : Int) == 65)) with hc38 | hc38
                                                                            · skip
                                                                              refine sd_see 38 (.bool true) (see_bool kr hc38) ?_
                                                                              refine sd_run 27 ?_
                                                                              simp only [decide_eq_true_eq, decide_eq_false_iff_not, beq_iff_eq, beq_eq_false_iff_ne, bne_iff_ne, bne_eq_false_iff_eq, ne_eq, Bool.not_eq_true, Bool.not_eq_false, Bool.not_not, gt_iff_lt, ge_iff_le, Int.not_le, Int.not_lt] at hc1 hc2 hc3 hc4 hc5 hc6 hc7 hc8 hc9 hc10 hc11 hc12 hc13 hc14 hc15 hc16 hc17 hc18 hc19 hc20 hc21 hc22 hc23 hc24 hc25 hc26 hc27 hc28 hc29 hc30 hc31 hc32 hc33 hc34 hc35 hc36 hc37 hc38
                                                                              refine sd_end (.int .i64 1) hX kr kr kr (.int .i64 1) (hq []) (emOf []) (sub_of kr kr True.intro) (rn2_sound _ _ kr) ⟨(by congr 1; unfold sizeZ namedB; simp; repeat (first | rfl | omega | split)), rfl⟩
                                                                            · skip
                                                                              refine sd_see 38 (.bool false) (see_bool kr hc38) ?_
                                                                              refine sd_run 7 ?_
                                                                              refine sd_see 40 (.bool false) (see_bool kr (hc9 : (((op : Int) == 66)) = false)) ?_
                                                                              refine sd_run 7 ?_
                                                                              refine sd_see 42 (.bool false) (see_bool kr (hc10 : (((op : Int) == 67)) = false)) ?_
                                                                              refine sd_run 7 ?_
                                                                              rcases Bool.eq_false_or_eq_true (((op : Int) == 68)) with hc39 | hc39
                                                                              · skip
                                                                                refine sd_see 44 (.bool true) (see_bool kr hc39) ?_
                                                                                refine sd_run 27 ?_
                                                                                simp only [decide_eq_true_eq, decide_eq_false_iff_not, beq_iff_eq, beq_eq_false_iff_ne, bne_iff_ne, bne_eq_false_iff_eq, ne_eq, Bool.not_eq_true, Bool.not_eq_false, Bool.not_not, gt_iff_lt, ge_iff_le, Int.not_le, Int.not_lt] at hc1 hc2 hc3 hc4 hc5 hc6 hc7 hc8 hc9 hc10 hc11 hc12 hc13 hc14 hc15 hc16 hc17 hc18 hc19 hc20 hc21 hc22 hc23 hc24 hc25 hc26 hc27 hc28 hc29 hc30 hc31 hc32 hc33 hc34 hc35 hc36 hc37 hc38 hc39
                                                                                refine sd_end (.int .i64 1) hX kr kr kr (.int .i64 1) (hq []) (emOf []) (sub_of kr kr True.intro) (rn2_sound _ _ kr) ⟨(by congr 1; unfold sizeZ namedB; simp; repeat (first | rfl | omega | split)), rfl⟩
                                                                              · skip
                                                                                refine sd_see 44 (.bool false) (see_bool kr hc39) ?_
                                                                                refine sd_run 7 ?_
                                                                                rcases Bool.eq_false_or_eq_true (((op : Int) == 69)) with hc40 | hc40
                                                                                · skip
                                                                                  refine sd_see 46 (.bool true) (see_bool kr hc40) ?_
                                                                                  refine sd_run 27 ?_
                                                                                  simp only [decide_eq_true_eq, decide_eq_false_iff_not, beq_iff_eq, beq_eq_false_iff_ne, bne_iff_ne, bne_eq_false_iff_eq, ne_eq, Bool.not_eq_true, Bool.not_eq_false, Bool.not_not, gt_iff_lt, ge_iff_le, Int.not_le, Int.not_lt] at hc1 hc2 hc3 hc4 hc5 hc6 hc7 hc8 hc9 hc10 hc11 hc12 hc13 hc14 hc15 hc16 hc17 hc18 hc19 hc20 hc21 hc22 hc23 hc24 hc25 hc26 hc27 hc28 hc29 hc30 hc31 hc32 hc33 hc34 hc35 hc36 hc37 hc38 hc39 hc40
                                                                                  refine sd_end (.int .i64 1) hX kr kr kr (.int .i64 1) (hq []) (emOf []) (sub_of kr kr True.intro) (rn2_sound _ _ kr) ⟨(by congr 1; unfold sizeZ namedB; simp; repeat (first | rfl | omega | split)), rfl⟩
                                                                                · skip
                                                                                  refine sd_see 46 (.bool false) (see_bool kr hc40) ?_
                                                                                  refine sd_run 27 ?_
                                                                                  simp only [decide_eq_true_eq, decide_eq_false_iff_not, beq_iff_eq, beq_eq_false_iff_ne, bne_iff_ne, bne_eq_false_iff_eq, ne_eq, Bool.not_eq_true, Bool.not_eq_false, Bool.not_not, gt_iff_lt, ge_iff_le, Int.not_le, Int.not_lt] at hc1 hc2 hc3 hc4 hc5 hc6 hc7 hc8 hc9 hc10 hc11 hc12 hc13 hc14 hc15 hc16 hc17 hc18 hc19 hc20 hc21 hc22 hc23 hc24 hc25 hc26 hc27 hc28 hc29 hc30 hc31 hc32 hc33 hc34 hc35 hc36 hc37 hc38 hc39 hc40
                                                                                  refine sd_end (.int .i64 0) hX kr kr kr (.int .i64 0) (hq []) (emOf []) (sub_of kr kr True.intro) (rn2_sound _ _ kr) ⟨(by congr 1; unfold sizeZ namedB; simp; repeat (first | rfl | omega | split)), rfl⟩
def sp26 : List Value → Option Value
  | [.int .i64 op] => some (.int .i64 (sizeZ op))
  | _ => none
noncomputable def T4 : Tab := { T3 with orc := addOrc T3.orc 26 sp26 }
theorem ok_T4 [Bs] : ProgOk Try.prog T4 := ok_T3.know 26 sp26 fun args v h => by
  unfold sp26 at h
  split at h
  · rename_i op; cases h; exact ⟨rfl, rfl, SCall.data (size_s op) rfl rfl⟩
  · cases h
instance : OrcDat T4 := orcDat_add inferInstance 26 sp26 fun l v h => by
  unfold sp26 at h
  split at h
  · cases h; exact ⟨rfl, rfl⟩
  · cases h
noncomputable def f23b : Code := Try.f23.body.getD .skip
theorem f23_body : Try.f23.body = some f23b := by kernel_rfl
theorem f23_fn : T4.fn 23 = some Try.f23 := by kernel_rfl
theorem rightI_s (op n : Int)  : SCall Try.prog T4 23 #[.agg #[.int .i64 op, .int .u32 n]] (hq []) fun v h => v = .bool (rightI op n) ∧ h = hq [] := by
  refine scall_sd 18 _ 0 kr f23_fn f23_body rfl rfl rfl fun X hX => ?_
  refine sd_run 11 ?_
  refine sd_ask 5 (.int .i64 (sizeZ op)) 26 #[.int .i64 op] kr kr kr rfl ?_
  refine sd_run 9 ?_
  rcases Bool.eq_false_or_eq_true ((((sizeZ op) : Int) == 0)) with hc1 | hc1
  · skip
    refine sd_see 6 (.bool true) (see_bool kr hc1) ?_
    refine sd_run 9 ?_
    simp only [decide_eq_true_eq, decide_eq_false_iff_not, beq_iff_eq, beq_eq_false_iff_ne, bne_iff_ne, bne_eq_false_iff_eq, ne_eq, Bool.not_eq_true, Bool.not_eq_false, Bool.not_not, gt_iff_lt, ge_iff_le, Int.not_le, Int.not_lt] at hc1
    refine sd_end (.bool false) hX kr kr kr (.bool false) (hq []) (emOf []) (sub_of kr kr True.intro) (rn2_sound _ _ kr) ⟨(by congr 1; unfold rightI; simp [*]; try (rw [Bool.eq_iff_iff]; simp)), rfl⟩
  · skip
    refine sd_see 6 (.bool false) (see_bool kr hc1) ?_
    refine sd_run 7 ?_
    rcases Bool.eq_false_or_eq_true ((((sizeZ op) : Int) == 1)) with hc2 | hc2
    · skip
      refine sd_see 8 (.bool true) (see_bool kr hc2) ?_
      refine sd_run 12 ?_
      simp only [decide_eq_true_eq, decide_eq_false_iff_not, beq_iff_eq, beq_eq_false_iff_ne, bne_iff_ne, bne_eq_false_iff_eq, ne_eq, Bool.not_eq_true, Bool.not_eq_false, Bool.not_not, gt_iff_lt, ge_iff_le, Int.not_le, Int.not_lt] at hc1 hc2
      refine sd_end (.bool ((n : Int) == 0)) hX kr kr kr (.bool ((n : Int) == 0)) (hq []) (emOf []) (sub_of kr kr True.intro) (rn2_sound _ _ kr) ⟨(by congr 1; unfold rightI; simp [*]; try (rw [Bool.eq_iff_iff]; simp)), rfl⟩
    · skip
      refine sd_see 8 (.bool false) (see_bool kr hc2) ?_
      refine sd_run 7 ?_
      rcases Bool.eq_false_or_eq_true ((((sizeZ op) : Int) == 2)) with hc3 | hc3
      · skip
        refine sd_see 13 (.bool true) (see_bool kr hc3) ?_
        refine sd_run 12 ?_
        simp only [decide_eq_true_eq, decide_eq_false_iff_not, beq_iff_eq, beq_eq_false_iff_ne, bne_iff_ne, bne_eq_false_iff_eq, ne_eq, Bool.not_eq_true, Bool.not_eq_false, Bool.not_not, gt_iff_lt, ge_iff_le, Int.not_le, Int.not_lt] at hc1 hc2 hc3
        refine sd_end (.bool (decide ((n : Int) ≤ 255))) hX kr kr kr (.bool (decide ((n : Int) ≤ 255))) (hq []) (emOf []) (sub_of kr kr True.intro) (rn2_sound _ _ kr) ⟨(by congr 1; unfold rightI; simp [*]; try (rw [Bool.eq_iff_iff]; simp)), rfl⟩
      · skip
        refine sd_see 13 (.bool false) (see_bool kr hc3) ?_
        refine sd_run 10 ?_
        simp only [decide_eq_true_eq, decide_eq_false_iff_not, beq_iff_eq, beq_eq_false_iff_ne, bne_iff_ne, bne_eq_false_iff_eq, ne_eq, Bool.not_eq_true, Bool.not_eq_false, Bool.not_not, gt_iff_lt, ge_iff_le, Int.not_le, Int.not_lt] at hc1 hc2 hc3
        refine sd_end (.bool true) hX kr kr kr (.bool true) (hq []) (emOf []) (sub_of kr kr True.intro) (rn2_sound _ _ kr) ⟨(by congr 1; unfold rightI; simp [*]; try (rw [Bool.eq_iff_iff]; simp)), rfl⟩
def sp23 : List Value → Option Value
  | [.agg ⟨[.int .i64 op, .int .u32 n]⟩] => some (.bool (rightI op n))
  | _ => none
noncomputable def T5 : Tab := { T4 with orc := addOrc T4.orc 23 sp23 }
theorem ok_T5 [Bs] : ProgOk Try.prog T5 := ok_T4.know 23 sp23 fun args v h => by
  unfold sp23 at h
  split at h
  · rename_i op n; cases h; exact ⟨rfl, rfl, SCall.data (rightI_s op n) rfl rfl⟩
  · cases h
instance : OrcDat T5 := orcDat_add inferInstance 23 sp23 fun l v h => by
  unfold sp23 at h
  split at h
  · cases h; exact ⟨rfl, rfl⟩
  · cases h
noncomputable def f24b : Code := Try.f24.body.getD .skip
theorem f24_body : Try.f24.body = some f24b := by kernel_rfl
theorem f24_fn : T5.fn 24 = some Try.f24 := by kernel_rfl
theorem plainB_s (op : Int)  : SCall Try.prog T5 24 #[.int .i64 op] (hq []) fun v h => v = .bool (plainB op) ∧ h = hq [] := by
  refine scall_sd 26 _ 0 kr f24_fn f24_body rfl rfl rfl fun X hX => ?_
  refine sd_run 13 ?_
  rcases Bool.eq_false_or_eq_true ((decide ((op : Int) ≥ 0))) with hc1 | hc1
  · skip
    refine sd_see 6 (.bool true) (see_bool kr hc1) ?_
    refine sd_run 6 ?_
    rcases Bool.eq_false_or_eq_true ((decide ((op : Int) ≤ 8))) with hc2 | hc2
    · skip
      refine sd_see 3 (.bool true) (see_bool kr hc2) ?_
      refine sd_run 12 ?_
      simp only [decide_eq_true_eq, decide_eq_false_iff_not, beq_iff_eq, beq_eq_false_iff_ne, bne_iff_ne, bne_eq_false_iff_eq, ne_eq, Bool.not_eq_true, Bool.not_eq_false, Bool.not_not, gt_iff_lt, ge_iff_le, Int.not_le, Int.not_lt] at hc1 hc2
      refine sd_end (.bool true) hX kr kr kr (.bool true) (hq []) (emOf []) (sub_of kr kr True.intro) (rn2_sound _ _ kr) ⟨(by congr 1; unfold plainB; rw [Bool.eq_iff_iff]; simp; omega), rfl⟩
    · skip
      refine sd_see 3 (.bool false) (see_bool kr hc2) ?_
      refine sd_run 5 ?_
      rcases Bool.eq_false_or_eq_true ((decide ((op : Int) ≥ 32))) with hc3 | hc3
      · skip
        refine sd_see 12 (.bool true) (see_bool kr hc3) ?_
        refine sd_run 6 ?_
        rcases Bool.eq_false_or_eq_true ((decide ((op : Int) ≤ 40))) with hc4 | hc4
        · skip
          refine sd_see 3 (.bool true) (see_bool kr hc4) ?_
          refine sd_run 9 ?_
          simp only [decide_eq_true_eq, decide_eq_false_iff_not, beq_iff_eq, beq_eq_false_iff_ne, bne_iff_ne, bne_eq_false_iff_eq, ne_eq, Bool.not_eq_true, Bool.not_eq_false, Bool.not_not, gt_iff_lt, ge_iff_le, Int.not_le, Int.not_lt] at hc1 hc2 hc3 hc4
          refine sd_end (.bool true) hX kr kr kr (.bool true) (hq []) (emOf []) (sub_of kr kr True.intro) (rn2_sound _ _ kr) ⟨(by congr 1; unfold plainB; rw [Bool.eq_iff_iff]; simp; omega), rfl⟩
        · skip
          refine sd_see 3 (.bool false) (see_bool kr hc4) ?_
          refine sd_run 9 ?_
          rcases Bool.eq_false_or_eq_true ((decide ((op : Int) ≥ 16))) with hc5 | hc5
          · skip
            refine sd_see 18 (.bool true) (see_bool kr hc5) ?_
            refine sd_run 4 ?_
            rcases Bool.eq_false_or_eq_true ((decide ((op : Int) ≤ 25))) with hc6 | hc6
            · skip
              refine sd_see 22 (.bool true) (see_bool kr hc6) ?_
              refine sd_run 7 ?_
              rcases Bool.eq_false_or_eq_true (((op : Int) != 24)) with hc7 | hc7
              · skip
                refine sd_see 2 (.bool true) (see_bool kr hc7) ?_
                simp only [decide_eq_true_eq, decide_eq_false_iff_not, beq_iff_eq, beq_eq_false_iff_ne, bne_iff_ne, bne_eq_false_iff_eq, ne_eq, Bool.not_eq_true, Bool.not_eq_false, Bool.not_not, gt_iff_lt, ge_iff_le, Int.not_le, Int.not_lt] at hc1 hc2 hc3 hc4 hc5 hc6 hc7
                refine sd_end (.bool true) hX kr kr kr (.bool true) (hq []) (emOf []) (sub_of kr kr True.intro) (rn2_sound _ _ kr) ⟨(by congr 1; unfold plainB; rw [Bool.eq_iff_iff]; simp; omega), rfl⟩
              · skip
                refine sd_see 2 (.bool false) (see_bool kr hc7) ?_
                simp only [decide_eq_true_eq, decide_eq_false_iff_not, beq_iff_eq, beq_eq_false_iff_ne, bne_iff_ne, bne_eq_false_iff_eq, ne_eq, Bool.not_eq_true, Bool.not_eq_false, Bool.not_not, gt_iff_lt, ge_iff_le, Int.not_le, Int.not_lt] at hc1 hc2 hc3 hc4 hc5 hc6 hc7
                refine sd_end (.bool false) hX kr kr kr (.bool false) (hq []) (emOf []) (sub_of kr kr True.intro) (rn2_sound _ _ kr) ⟨(by congr 1; unfold plainB; rw [Bool.eq_iff_iff]; simp; omega), rfl⟩
            · skip
              refine sd_see 22 (.bool false) (see_bool kr hc6) ?_
              refine sd_run 7 ?_
              simp only [decide_eq_true_eq, decide_eq_false_iff_not, beq_iff_eq, beq_eq_false_iff_ne, bne_iff_ne, bne_eq_false_iff_eq, ne_eq, Bool.not_eq_true, Bool.not_eq_false, Bool.not_not, gt_iff_lt, ge_iff_le, Int.not_le, Int.not_lt] at hc1 hc2 hc3 hc4 hc5 hc6
              refine sd_end (.bool false) hX kr kr kr (.bool false) (hq []) (emOf []) (sub_of kr kr True.intro) (rn2_sound _ _ kr) ⟨(by congr 1; unfold plainB; rw [Bool.eq_iff_iff]; simp; omega), rfl⟩
          · skip
            refine sd_see 18 (.bool false) (see_bool kr hc5) ?_
            refine sd_run 11 ?_
            simp only [decide_eq_true_eq, decide_eq_false_iff_not, beq_iff_eq, beq_eq_false_iff_ne, bne_iff_ne, bne_eq_false_iff_eq, ne_eq, Bool.not_eq_true, Bool.not_eq_false, Bool.not_not, gt_iff_lt, ge_iff_le, Int.not_le, Int.not_lt] at hc1 hc2 hc3 hc4 hc5
            refine sd_end (.bool false) hX kr kr kr (.bool false) (hq []) (emOf []) (sub_of kr kr True.intro) (rn2_sound _ _ kr) ⟨(by congr 1; unfold plainB; rw [Bool.eq_iff_iff]; simp; omega), rfl⟩
      · skip
        refine sd_see 12 (.bool false) (see_bool kr hc3) ?_
        refine sd_run 15 ?_
        rcases Bool.eq_false_or_eq_true ((decide ((op : Int) ≥ 16))) with hc8 | hc8
        · skip
          refine sd_see 18 (.bool true) (see_bool kr hc8) ?_
          refine sd_run 4 ?_
          rcases Bool.eq_false_or_eq_true ((decide ((op : Int) ≤ 25))) with hc9 | hc9
          · skip
            refine sd_see 22 (.bool true) (see_bool kr hc9) ?_
            refine sd_run 7 ?_
            rcases Bool.eq_false_or_eq_true (((op : Int) != 24)) with hc10 | hc10
            · skip
              refine sd_see 2 (.bool true) (see_bool kr hc10) ?_
              simp only [decide_eq_true_eq, decide_eq_false_iff_not, beq_iff_eq, beq_eq_false_iff_ne, bne_iff_ne, bne_eq_false_iff_eq, ne_eq, Bool.not_eq_true, Bool.not_eq_false, Bool.not_not, gt_iff_lt, ge_iff_le, Int.not_le, Int.not_lt] at hc1 hc2 hc3 hc8 hc9 hc10
              refine sd_end (.bool true) hX kr kr kr (.bool true) (hq []) (emOf []) (sub_of kr kr True.intro) (rn2_sound _ _ kr) ⟨(by congr 1; unfold plainB; rw [Bool.eq_iff_iff]; simp; omega), rfl⟩
            · skip
              refine sd_see 2 (.bool false) (see_bool kr hc10) ?_
              simp only [decide_eq_true_eq, decide_eq_false_iff_not, beq_iff_eq, beq_eq_false_iff_ne, bne_iff_ne, bne_eq_false_iff_eq, ne_eq, Bool.not_eq_true, Bool.not_eq_false, Bool.not_not, gt_iff_lt, ge_iff_le, Int.not_le, Int.not_lt] at hc1 hc2 hc3 hc8 hc9 hc10
              refine sd_end (.bool false) hX kr kr kr (.bool false) (hq []) (emOf []) (sub_of kr kr True.intro) (rn2_sound _ _ kr) ⟨(by congr 1; unfold plainB; rw [Bool.eq_iff_iff]; simp; omega), rfl⟩
          · skip
            refine sd_see 22 (.bool false) (see_bool kr hc9) ?_
            refine sd_run 7 ?_
            simp only [decide_eq_true_eq, decide_eq_false_iff_not, beq_iff_eq, beq_eq_false_iff_ne, bne_iff_ne, bne_eq_false_iff_eq, ne_eq, Bool.not_eq_true, Bool.not_eq_false, Bool.not_not, gt_iff_lt, ge_iff_le, Int.not_le, Int.not_lt] at hc1 hc2 hc3 hc8 hc9
            refine sd_end (.bool false) hX kr kr kr (.bool false) (hq []) (emOf []) (sub_of kr kr True.intro) (rn2_sound _ _ kr) ⟨(by congr 1; unfold plainB; rw [Bool.eq_iff_iff]; simp; omega), rfl⟩
        · skip
          refine sd_see 18 (.bool false) (see_bool kr hc8) ?_
          refine sd_run 11 ?_
          simp only [decide_eq_true_eq, decide_eq_false_iff_not, beq_iff_eq, beq_eq_false_iff_ne, bne_iff_ne, bne_eq_false_iff_eq, ne_eq, Bool.not_eq_true, Bool.not_eq_false, Bool.not_not, gt_iff_lt, ge_iff_le, Int.not_le, Int.not_lt] at hc1 hc2 hc3 hc8
          refine sd_end (.bool false) hX kr kr kr (.bool false) (hq []) (emOf []) (sub_of kr kr True.intro) (rn2_sound _ _ kr) ⟨(by congr 1; unfold plainB; rw [Bool.eq_iff_iff]; simp; omega), rfl⟩
  · skip
    refine sd_see 6 (.bool false) (see_bool kr hc1) ?_
    refine sd_run 11 ?_
    rcases Bool.eq_false_or_eq_true ((decide ((op : Int) ≥ 32))) with hc11 | hc11
    · skip
      refine sd_see 12 (.bool true) (see_bool kr hc11) ?_
      refine sd_run 6 ?_
      rcases Bool.eq_false_or_eq_true ((decide ((op : Int) ≤ 40))) with hc12 | hc12
      · skip
        refine sd_see 3 (.bool true) (see_bool kr hc12) ?_
        refine sd_run 9 ?_
        simp only [decide_eq_true_eq, decide_eq_false_iff_not, beq_iff_eq, beq_eq_false_iff_ne, bne_iff_ne, bne_eq_false_iff_eq, ne_eq, Bool.not_eq_true, Bool.not_eq_false, Bool.not_not, gt_iff_lt, ge_iff_le, Int.not_le, Int.not_lt] at hc1 hc11 hc12
        refine sd_end (.bool true) hX kr kr kr (.bool true) (hq []) (emOf []) (sub_of kr kr True.intro) (rn2_sound _ _ kr) ⟨(by congr 1; unfold plainB; rw [Bool.eq_iff_iff]; simp; omega), rfl⟩
      · skip
        refine sd_see 3 (.bool false) (see_bool kr hc12) ?_
        refine sd_run 9 ?_
        rcases Bool.eq_false_or_eq_true ((decide ((op : Int) ≥ 16))) with hc13 | hc13
        · skip
          refine sd_see 18 (.bool true) (see_bool kr hc13) ?_
          refine sd_run 4 ?_
          rcases Bool.eq_false_or_eq_true ((decide ((op : Int) ≤ 25))) with hc14 | hc14
          · skip
            refine sd_see 22 (.bool true) (see_bool kr hc14) ?_
            refine sd_run 7 ?_
            rcases Bool.eq_false_or_eq_true (((op : Int) != 24)) with hc15 | hc15
            · skip
              refine sd_see 2 (.bool true) (see_bool kr hc15) ?_
              simp only [decide_eq_true_eq, decide_eq_false_iff_not, beq_iff_eq, beq_eq_false_iff_ne, bne_iff_ne, bne_eq_false_iff_eq, ne_eq, Bool.not_eq_true, Bool.not_eq_false, Bool.not_not, gt_iff_lt, ge_iff_le, Int.not_le, Int.not_lt] at hc1 hc11 hc12 hc13 hc14 hc15
              refine sd_end (.bool true) hX kr kr kr (.bool true) (hq []) (emOf []) (sub_of kr kr True.intro) (rn2_sound _ _ kr) ⟨(by congr 1; unfold plainB; rw [Bool.eq_iff_iff]; simp; omega), rfl⟩
            · skip
              refine sd_see 2 (.bool false) (see_bool kr hc15) ?_
              simp only [decide_eq_true_eq, decide_eq_false_iff_not, beq_iff_eq, beq_eq_false_iff_ne, bne_iff_ne, bne_eq_false_iff_eq, ne_eq, Bool.not_eq_true, Bool.not_eq_false, Bool.not_not, gt_iff_lt, ge_iff_le, Int.not_le, Int.not_lt] at hc1 hc11 hc12 hc13 hc14 hc15
              refine sd_end (.bool false) hX kr kr kr (.bool false) (hq []) (emOf []) (sub_of kr kr True.intro) (rn2_sound _ _ kr) ⟨(by congr 1; unfold plainB; rw [Bool.eq_iff_iff]; simp; omega), rfl⟩
          · skip
            refine sd_see 22 (.bool false) (see_bool kr hc14) ?_
            refine sd_run 7 ?_
            simp only [decide_eq_true_eq, decide_eq_false_iff_not, beq_iff_eq, beq_eq_false_iff_ne, bne_iff_ne, bne_eq_false_iff_eq, ne_eq, Bool.not_eq_true, Bool.not_eq_false, Bool.not_not, gt_iff_lt, ge_iff_le, Int.not_le, Int.not_lt] at hc1 hc11 hc12 hc13 hc14
            refine sd_end (.bool false) hX kr kr kr (.bool false) (hq []) (emOf []) (sub_of kr kr True.intro) (rn2_sound _ _ kr) ⟨(by congr 1; unfold plainB; rw [Bool.eq_iff_iff]; simp; omega), rfl⟩
        · skip
          refine sd_see 18 (.bool false) (see_bool kr hc13) ?_
          refine sd_run 11 ?_
          simp only [decide_eq_true_eq, decide_eq_false_iff_not, beq_iff_eq, beq_eq_false_iff_ne, bne_iff_ne, bne_eq_false_iff_eq, ne_eq, Bool.not_eq_true, Bool.not_eq_false, Bool.not_not, gt_iff_lt, ge_iff_le, Int.not_le, Int.not_lt] at hc1 hc11 hc12 hc13
          refine sd_end (.bool false) hX kr kr kr (.bool false) (hq []) (emOf []) (sub_of kr kr True.intro) (rn2_sound _ _ kr) ⟨(by congr 1; unfold plainB; rw [Bool.eq_iff_iff]; simp; omega), rfl⟩
    · skip
      refine sd_see 12 (.bool false) (see_bool kr hc11) ?_
      refine sd_run 15 ?_
      rcases Bool.eq_false_or_eq_true ((decide ((op : Int) ≥ 16))) with hc16 | hc16
      · skip
        refine sd_see 18 (.bool true) (see_bool kr hc16) ?_
        refine sd_run 4 ?_
        rcases Bool.eq_false_or_eq_true ((decide ((op : Int) ≤ 25))) with hc17 | hc17
        · skip
          refine sd_see 22 (.bool true) (see_bool kr hc17) ?_
          refine sd_run 7 ?_
          rcases Bool.eq_false_or_eq_true (((op : Int) != 24)) with hc18 | hc18
          · skip
            refine sd_see 2 (.bool true) (see_bool kr hc18) ?_
            simp only [decide_eq_true_eq, decide_eq_false_iff_not, beq_iff_eq, beq_eq_false_iff_ne, bne_iff_ne, bne_eq_false_iff_eq, ne_eq, Bool.not_eq_true, Bool.not_eq_false, Bool.not_not, gt_iff_lt, ge_iff_le, Int.not_le, Int.not_lt] at hc1 hc11 hc16 hc17 hc18
            refine sd_end (.bool true) hX kr kr kr (.bool true) (hq []) (emOf []) (sub_of kr kr True.intro) (rn2_sound _ _ kr) ⟨(by congr 1; unfold plainB; rw [Bool.eq_iff_iff]; simp; omega), rfl⟩
          · skip
            refine sd_see 2 (.bool false) (see_bool kr hc18) ?_
            simp only [decide_eq_true_eq, decide_eq_false_iff_not, beq_iff_eq, beq_eq_false_iff_ne, bne_iff_ne, bne_eq_false_iff_eq, ne_eq, Bool.not_eq_true, Bool.not_eq_false, Bool.not_not, gt_iff_lt, ge_iff_le, Int.not_le, Int.not_lt] at hc1 hc11 hc16 hc17 hc18
            refine sd_end (.bool false) hX kr kr kr (.bool false) (hq []) (emOf []) (sub_of kr kr True.intro) (rn2_sound _ _ kr) ⟨(by congr 1; unfold plainB; rw [Bool.eq_iff_iff]; simp; omega), rfl⟩
        · skip
          refine sd_see 22 (.bool false) (see_bool kr hc17) ?_
          refine sd_run 7 ?_
          simp only [decide_eq_true_eq, decide_eq_false_iff_not, beq_iff_eq, beq_eq_false_iff_ne, bne_iff_ne, bne_eq_false_iff_eq, ne_eq, Bool.not_eq_true, Bool.not_eq_false, Bool.not_not, gt_iff_lt, ge_iff_le, Int.not_le, Int.not_lt] at hc1 hc11 hc16 hc17
          refine sd_end (.bool false) hX kr kr kr (.bool false) (hq []) (emOf []) (sub_of kr kr True.intro) (rn2_sound _ _ kr) ⟨(by congr 1; unfold plainB; rw [Bool.eq_iff_iff]; simp; omega), rfl⟩
      · skip
        refine sd_see 18 (.bool false) (see_bool kr hc16) ?_
        refine sd_run 11 ?_
        simp only [decide_eq_true_eq, decide_eq_false_iff_not, beq_iff_eq, beq_eq_false_iff_ne, bne_iff_ne, bne_eq_false_iff_eq, ne_eq, Bool.not_eq_true, Bool.not_eq_false, Bool.not_not, gt_iff_lt, ge_iff_le, Int.not_le, Int.not_lt] at hc1 hc11 hc16
        refine sd_end (.bool false) hX kr kr kr (.bool false) (hq []) (emOf []) (sub_of kr kr True.intro) (rn2_sound _ _ kr) ⟨(by congr 1; unfold plainB; rw [Bool.eq_iff_iff]; simp; omega), rfl⟩
def sp24 : List Value → Option Value
  | [.int .i64 op] => some (.bool (plainB op))
  | _ => none
noncomputable def T6 : Tab := { T5 with orc := addOrc T5.orc 24 sp24 }
theorem ok_T6 [Bs] : ProgOk Try.prog T6 := ok_T5.know 24 sp24 fun args v h => by
  unfold sp24 at h
  split at h
  · rename_i op; cases h; exact ⟨rfl, rfl, SCall.data (plainB_s op) rfl rfl⟩
  · cases h
instance : OrcDat T6 := orcDat_add inferInstance 24 sp24 fun l v h => by
  unfold sp24 at h
  split at h
  · cases h; exact ⟨rfl, rfl⟩
  · cases h
noncomputable def f25b : Code := Try.f25.body.getD .skip
theorem f25_body : Try.f25.body = some f25b := by kernel_rfl
theorem f25_fn : T6.fn 25 = some Try.f25 := by kernel_rfl
theorem endsB_s (op : Int)  : SCall Try.prog T6 25 #[.int .i64 op] (hq []) fun v h => v = .bool (endsB op) ∧ h = hq [] := by
  refine scall_sd 17 _ 0 kr f25_fn f25_body rfl rfl rfl fun X hX => ?_
  refine sd_run 10 ?_
  rcases Bool.eq_false_or_eq_true ((decide ((op : Int) ≥ 32))) with hc1 | hc1
  · skip
    refine sd_see 5 (.bool true) (see_bool kr hc1) ?_
    refine sd_run 4 ?_
    rcases Bool.eq_false_or_eq_true ((decide ((op : Int) ≤ 40))) with hc2 | hc2
    · skip
      refine sd_see 9 (.bool true) (see_bool kr hc2) ?_
      refine sd_run 11 ?_
      simp only [decide_eq_true_eq, decide_eq_false_iff_not, beq_iff_eq, beq_eq_false_iff_ne, bne_iff_ne, bne_eq_false_iff_eq, ne_eq, Bool.not_eq_true, Bool.not_eq_false, Bool.not_not, gt_iff_lt, ge_iff_le, Int.not_le, Int.not_lt] at hc1 hc2
      refine sd_end (.bool true) hX kr kr kr (.bool true) (hq []) (emOf []) (sub_of kr kr True.intro) (rn2_sound _ _ kr) ⟨(by congr 1; unfold endsB; rw [Bool.eq_iff_iff]; simp; omega), rfl⟩
    · skip
      refine sd_see 9 (.bool false) (see_bool kr hc2) ?_
      refine sd_run 3 ?_
      rcases Bool.eq_false_or_eq_true ((decide ((op : Int) ≥ 64))) with hc3 | hc3
      · skip
        refine sd_see 12 (.bool true) (see_bool kr hc3) ?_
        refine sd_run 8 ?_
        rcases Bool.eq_false_or_eq_true ((decide ((op : Int) ≤ 69))) with hc4 | hc4
        · skip
          refine sd_see 2 (.bool true) (see_bool kr hc4) ?_
          simp only [decide_eq_true_eq, decide_eq_false_iff_not, beq_iff_eq, beq_eq_false_iff_ne, bne_iff_ne, bne_eq_false_iff_eq, ne_eq, Bool.not_eq_true, Bool.not_eq_false, Bool.not_not, gt_iff_lt, ge_iff_le, Int.not_le, Int.not_lt] at hc1 hc2 hc3 hc4
          refine sd_end (.bool true) hX kr kr kr (.bool true) (hq []) (emOf []) (sub_of kr kr True.intro) (rn2_sound _ _ kr) ⟨(by congr 1; unfold endsB; rw [Bool.eq_iff_iff]; simp; omega), rfl⟩
        · skip
          refine sd_see 2 (.bool false) (see_bool kr hc4) ?_
          simp only [decide_eq_true_eq, decide_eq_false_iff_not, beq_iff_eq, beq_eq_false_iff_ne, bne_iff_ne, bne_eq_false_iff_eq, ne_eq, Bool.not_eq_true, Bool.not_eq_false, Bool.not_not, gt_iff_lt, ge_iff_le, Int.not_le, Int.not_lt] at hc1 hc2 hc3 hc4
          refine sd_end (.bool false) hX kr kr kr (.bool false) (hq []) (emOf []) (sub_of kr kr True.intro) (rn2_sound _ _ kr) ⟨(by congr 1; unfold endsB; rw [Bool.eq_iff_iff]; simp; omega), rfl⟩
      · skip
        refine sd_see 12 (.bool false) (see_bool kr hc3) ?_
        refine sd_run 8 ?_
        simp only [decide_eq_true_eq, decide_eq_false_iff_not, beq_iff_eq, beq_eq_false_iff_ne, bne_iff_ne, bne_eq_false_iff_eq, ne_eq, Bool.not_eq_true, Bool.not_eq_false, Bool.not_not, gt_iff_lt, ge_iff_le, Int.not_le, Int.not_lt] at hc1 hc2 hc3
        refine sd_end (.bool false) hX kr kr kr (.bool false) (hq []) (emOf []) (sub_of kr kr True.intro) (rn2_sound _ _ kr) ⟨(by congr 1; unfold endsB; rw [Bool.eq_iff_iff]; simp; omega), rfl⟩
  · skip
    refine sd_see 5 (.bool false) (see_bool kr hc1) ?_
    refine sd_run 7 ?_
    rcases Bool.eq_false_or_eq_true ((decide ((op : Int) ≥ 64))) with hc5 | hc5
    · skip
      refine sd_see 12 (.bool true) (see_bool kr hc5) ?_
      refine sd_run 8 ?_
      rcases Bool.eq_false_or_eq_true ((decide ((op : Int) ≤ 69))) with hc6 | hc6
      · skip
        refine sd_see 2 (.bool true) (see_bool kr hc6) ?_
        simp only [decide_eq_true_eq, decide_eq_false_iff_not, beq_iff_eq, beq_eq_false_iff_ne, bne_iff_ne, bne_eq_false_iff_eq, ne_eq, Bool.not_eq_true, Bool.not_eq_false, Bool.not_not, gt_iff_lt, ge_iff_le, Int.not_le, Int.not_lt] at hc1 hc5 hc6
        refine sd_end (.bool true) hX kr kr kr (.bool true) (hq []) (emOf []) (sub_of kr kr True.intro) (rn2_sound _ _ kr) ⟨(by congr 1; unfold endsB; rw [Bool.eq_iff_iff]; simp; omega), rfl⟩
      · skip
        refine sd_see 2 (.bool false) (see_bool kr hc6) ?_
        simp only [decide_eq_true_eq, decide_eq_false_iff_not, beq_iff_eq, beq_eq_false_iff_ne, bne_iff_ne, bne_eq_false_iff_eq, ne_eq, Bool.not_eq_true, Bool.not_eq_false, Bool.not_not, gt_iff_lt, ge_iff_le, Int.not_le, Int.not_lt] at hc1 hc5 hc6
        refine sd_end (.bool false) hX kr kr kr (.bool false) (hq []) (emOf []) (sub_of kr kr True.intro) (rn2_sound _ _ kr) ⟨(by congr 1; unfold endsB; rw [Bool.eq_iff_iff]; simp; omega), rfl⟩
    · skip
      refine sd_see 12 (.bool false) (see_bool kr hc5) ?_
      refine sd_run 8 ?_
      simp only [decide_eq_true_eq, decide_eq_false_iff_not, beq_iff_eq, beq_eq_false_iff_ne, bne_iff_ne, bne_eq_false_iff_eq, ne_eq, Bool.not_eq_true, Bool.not_eq_false, Bool.not_not, gt_iff_lt, ge_iff_le, Int.not_le, Int.not_lt] at hc1 hc5
      refine sd_end (.bool false) hX kr kr kr (.bool false) (hq []) (emOf []) (sub_of kr kr True.intro) (rn2_sound _ _ kr) ⟨(by congr 1; unfold endsB; rw [Bool.eq_iff_iff]; simp; omega), rfl⟩
def sp25 : List Value → Option Value
  | [.int .i64 op] => some (.bool (endsB op))
  | _ => none
noncomputable def T7 : Tab := { T6 with orc := addOrc T6.orc 25 sp25 }
theorem ok_T7 [Bs] : ProgOk Try.prog T7 := ok_T6.know 25 sp25 fun args v h => by
  unfold sp25 at h
  split at h
  · rename_i op; cases h; exact ⟨rfl, rfl, SCall.data (endsB_s op) rfl rfl⟩
  · cases h
instance : OrcDat T7 := orcDat_add inferInstance 25 sp25 fun l v h => by
  unfold sp25 at h
  split at h
  · cases h; exact ⟨rfl, rfl⟩
  · cases h
noncomputable def f28b : Code := Try.f28.body.getD .skip
theorem f28_body : Try.f28.body = some f28b := by kernel_rfl
theorem f28_fn : T7.fn 28 = some Try.f28 := by kernel_rfl
theorem sign_s (n : Int)  : SCall Try.prog T7 28 #[.int .u32 n] (hq []) fun v h => v = .int .u32 (signZ n) ∧ h = hq [] := by
  refine scall_sd 7 _ 0 kr f28_fn f28_body rfl rfl rfl fun X hX => ?_
  refine sd_run 15 ?_
  refine sd_end (.int .u32 (IntKind.u32.wrap (IntKind.i32.wrap (IntKind.i8.wrap n)))) hX kr kr kr (.int .u32 (IntKind.u32.wrap (IntKind.i32.wrap (IntKind.i8.wrap n)))) (hq []) (emOf []) (sub_of kr kr True.intro) (rn2_sound _ _ kr) ⟨rfl, rfl⟩
def sp28 : List Value → Option Value
  | [.int .u32 n] => some (.int .u32 (signZ n))
  | _ => none
noncomputable def T8 : Tab := { T7 with orc := addOrc T7.orc 28 sp28 }
theorem ok_T8 [Bs] : ProgOk Try.prog T8 := ok_T7.know 28 sp28 fun args v h => by
  unfold sp28 at h
  split at h
  · rename_i n; cases h; exact ⟨rfl, rfl, SCall.data (sign_s n) rfl rfl⟩
  · cases h
instance : OrcDat T8 := orcDat_add inferInstance 28 sp28 fun l v h => by
  unfold sp28 at h
  split at h
  · cases h; exact ⟨rfl, rfl⟩
  · cases h
end Ls
end Go.Proofs.Ytahikechkggbfaa
