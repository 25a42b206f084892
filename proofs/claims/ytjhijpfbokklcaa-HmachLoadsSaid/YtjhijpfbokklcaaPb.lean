/- Chapter 4: the document's Right. -/
import Derived.Test.YtjhijpfbokklcaaPa
namespace Go.Proofs.Ytjhijpfbokklcaa
open Go Go.Ev Go.RowKit
set_option linter.unusedVariables false
set_option linter.unusedSimpArgs false
set_option maxRecDepth 100000
namespace Hm
noncomputable def f35b : Code := Try.f35.body.getD .skip
theorem f35_body : Try.f35.body = some f35b := by kernel_rfl
theorem f35_fn : T5.fn 35 = some Try.f35 := by kernel_rfl
theorem f35_0 {rd ra rb im : Int} : ACall Try.prog T5 35 #[.agg #[.int .i64 0, .int .i64 rd, .int .i64 ra, .int .i64 rb, .int .u32 im]] ⟨.lf, 0⟩ fun r _ => r = .bool (rightV 0 rd ra rb im) := by
  refine acall_cf 53 (initTm 0 #[.agg #[.int .i64 0, .int .i64 rd, .int .i64 ra, .int .i64 rb, .int .u32 im]]) rfl f35_fn f35_body rfl rfl ?_
  refine cf_go 10 ?_
  refine cf_ask 8 (.int .i64 0) 28 #[.int .i64 0] (by kernel_rfl) (by kernel_rfl) (by kernel_rfl) ?_
  refine cf_go 44 ?_
  rcases Bool.eq_false_or_eq_true ((decide ((rd : Int) < 0))) with hc1 | hc1
  · skip
    refine cf_see 24 (.bool true) (see_bool (by kernel_rfl) hc1) ?_
    refine cf_go 29 ?_
    refine cf_end (.bool false) _ (by kernel_rfl) (by kernel_rfl) rfl ?_
    congr 1; revert hc1; simp only [rightV, okB, show inT 0 = true from rfl, show rdB 0 = false from rfl, show raB 0 = false from rfl, show rbB 0 = false from rfl, show imB 0 = false from rfl, Bool.true_and, Bool.true_or, Bool.false_or, Bool.and_true, Bool.and_false]; simp [regV]; try (first | omega | (intros; simp [*]))
  · skip
    refine cf_see 24 (.bool false) (see_bool (by kernel_rfl) hc1) ?_
    refine cf_go 4 ?_
    rcases Bool.eq_false_or_eq_true ((decide ((rd : Int) ≥ 16))) with hc2 | hc2
    · skip
      refine cf_see 28 (.bool true) (see_bool (by kernel_rfl) hc2) ?_
      refine cf_go 25 ?_
      refine cf_end (.bool false) _ (by kernel_rfl) (by kernel_rfl) rfl ?_
      congr 1; revert hc1 hc2; simp only [rightV, okB, show inT 0 = true from rfl, show rdB 0 = false from rfl, show raB 0 = false from rfl, show rbB 0 = false from rfl, show imB 0 = false from rfl, Bool.true_and, Bool.true_or, Bool.false_or, Bool.and_true, Bool.and_false]; simp [regV]; try (first | omega | (intros; simp [*]))
    · skip
      refine cf_see 28 (.bool false) (see_bool (by kernel_rfl) hc2) ?_
      refine cf_go 13 ?_
      rcases Bool.eq_false_or_eq_true (((rd : Int) != 0)) with hc3 | hc3
      · skip
        refine cf_see 39 (.bool true) (see_bool (by kernel_rfl) hc3) ?_
        refine cf_go 12 ?_
        refine cf_end (.bool false) _ (by kernel_rfl) (by kernel_rfl) rfl ?_
        congr 1; revert hc1 hc2 hc3; simp only [rightV, okB, show inT 0 = true from rfl, show rdB 0 = false from rfl, show raB 0 = false from rfl, show rbB 0 = false from rfl, show imB 0 = false from rfl, Bool.true_and, Bool.true_or, Bool.false_or, Bool.and_true, Bool.and_false]; simp [regV]; try (first | omega | (intros; simp [*]))
      · skip
        refine cf_see 39 (.bool false) (see_bool (by kernel_rfl) hc3) ?_
        refine cf_go 35 ?_
        rcases Bool.eq_false_or_eq_true ((decide ((ra : Int) < 0))) with hc4 | hc4
        · skip
          refine cf_see 24 (.bool true) (see_bool (by kernel_rfl) hc4) ?_
          refine cf_go 29 ?_
          refine cf_end (.bool false) _ (by kernel_rfl) (by kernel_rfl) rfl ?_
          congr 1; revert hc1 hc2 hc3 hc4; simp only [rightV, okB, show inT 0 = true from rfl, show rdB 0 = false from rfl, show raB 0 = false from rfl, show rbB 0 = false from rfl, show imB 0 = false from rfl, Bool.true_and, Bool.true_or, Bool.false_or, Bool.and_true, Bool.and_false]; simp [regV]; try (first | omega | (intros; simp [*]))
        · skip
          refine cf_see 24 (.bool false) (see_bool (by kernel_rfl) hc4) ?_
          refine cf_go 4 ?_
          rcases Bool.eq_false_or_eq_true ((decide ((ra : Int) ≥ 16))) with hc5 | hc5
          · skip
            refine cf_see 28 (.bool true) (see_bool (by kernel_rfl) hc5) ?_
            refine cf_go 25 ?_
            refine cf_end (.bool false) _ (by kernel_rfl) (by kernel_rfl) rfl ?_
            congr 1; revert hc1 hc2 hc3 hc4 hc5; simp only [rightV, okB, show inT 0 = true from rfl, show rdB 0 = false from rfl, show raB 0 = false from rfl, show rbB 0 = false from rfl, show imB 0 = false from rfl, Bool.true_and, Bool.true_or, Bool.false_or, Bool.and_true, Bool.and_false]; simp [regV]; try (first | omega | (intros; simp [*]))
          · skip
            refine cf_see 28 (.bool false) (see_bool (by kernel_rfl) hc5) ?_
            refine cf_go 13 ?_
            rcases Bool.eq_false_or_eq_true (((ra : Int) != 0)) with hc6 | hc6
            · skip
              refine cf_see 39 (.bool true) (see_bool (by kernel_rfl) hc6) ?_
              refine cf_go 12 ?_
              refine cf_end (.bool false) _ (by kernel_rfl) (by kernel_rfl) rfl ?_
              congr 1; revert hc1 hc2 hc3 hc4 hc5 hc6; simp only [rightV, okB, show inT 0 = true from rfl, show rdB 0 = false from rfl, show raB 0 = false from rfl, show rbB 0 = false from rfl, show imB 0 = false from rfl, Bool.true_and, Bool.true_or, Bool.false_or, Bool.and_true, Bool.and_false]; simp [regV]; try (first | omega | (intros; simp [*]))
            · skip
              refine cf_see 39 (.bool false) (see_bool (by kernel_rfl) hc6) ?_
              refine cf_go 35 ?_
              rcases Bool.eq_false_or_eq_true ((decide ((rb : Int) < 0))) with hc7 | hc7
              · skip
                refine cf_see 24 (.bool true) (see_bool (by kernel_rfl) hc7) ?_
                refine cf_go 29 ?_
                refine cf_end (.bool false) _ (by kernel_rfl) (by kernel_rfl) rfl ?_
                congr 1; revert hc1 hc2 hc3 hc4 hc5 hc6 hc7; simp only [rightV, okB, show inT 0 = true from rfl, show rdB 0 = false from rfl, show raB 0 = false from rfl, show rbB 0 = false from rfl, show imB 0 = false from rfl, Bool.true_and, Bool.true_or, Bool.false_or, Bool.and_true, Bool.and_false]; simp [regV]; try (first | omega | (intros; simp [*]))
              · skip
                refine cf_see 24 (.bool false) (see_bool (by kernel_rfl) hc7) ?_
                refine cf_go 4 ?_
                rcases Bool.eq_false_or_eq_true ((decide ((rb : Int) ≥ 16))) with hc8 | hc8
                · skip
                  refine cf_see 28 (.bool true) (see_bool (by kernel_rfl) hc8) ?_
                  refine cf_go 25 ?_
                  refine cf_end (.bool false) _ (by kernel_rfl) (by kernel_rfl) rfl ?_
                  congr 1; revert hc1 hc2 hc3 hc4 hc5 hc6 hc7 hc8; simp only [rightV, okB, show inT 0 = true from rfl, show rdB 0 = false from rfl, show raB 0 = false from rfl, show rbB 0 = false from rfl, show imB 0 = false from rfl, Bool.true_and, Bool.true_or, Bool.false_or, Bool.and_true, Bool.and_false]; simp [regV]; try (first | omega | (intros; simp [*]))
                · skip
                  refine cf_see 28 (.bool false) (see_bool (by kernel_rfl) hc8) ?_
                  refine cf_go 13 ?_
                  rcases Bool.eq_false_or_eq_true (((rb : Int) != 0)) with hc9 | hc9
                  · skip
                    refine cf_see 39 (.bool true) (see_bool (by kernel_rfl) hc9) ?_
                    refine cf_go 12 ?_
                    refine cf_end (.bool false) _ (by kernel_rfl) (by kernel_rfl) rfl ?_
                    congr 1; revert hc1 hc2 hc3 hc4 hc5 hc6 hc7 hc8 hc9; simp only [rightV, okB, show inT 0 = true from rfl, show rdB 0 = false from rfl, show raB 0 = false from rfl, show rbB 0 = false from rfl, show imB 0 = false from rfl, Bool.true_and, Bool.true_or, Bool.false_or, Bool.and_true, Bool.and_false]; simp [regV]; try (first | omega | (intros; simp [*]))
                  · skip
                    refine cf_see 39 (.bool false) (see_bool (by kernel_rfl) hc9) ?_
                    refine cf_go 40 ?_
                    refine cf_end (.bool ((im : Int) == 0)) _ (by kernel_rfl) (by kernel_rfl) rfl ?_
                    congr 1; revert hc1 hc2 hc3 hc4 hc5 hc6 hc7 hc8 hc9; simp only [rightV, okB, show inT 0 = true from rfl, show rdB 0 = false from rfl, show raB 0 = false from rfl, show rbB 0 = false from rfl, show imB 0 = false from rfl, Bool.true_and, Bool.true_or, Bool.false_or, Bool.and_true, Bool.and_false]; simp [regV]; try (first | omega | (intros; simp [*]))
theorem f35_1 {rd ra rb im : Int} : ACall Try.prog T5 35 #[.agg #[.int .i64 1, .int .i64 rd, .int .i64 ra, .int .i64 rb, .int .u32 im]] ⟨.lf, 0⟩ fun r _ => r = .bool (rightV 1 rd ra rb im) := by
  refine acall_cf 53 (initTm 0 #[.agg #[.int .i64 1, .int .i64 rd, .int .i64 ra, .int .i64 rb, .int .u32 im]]) rfl f35_fn f35_body rfl rfl ?_
  refine cf_go 10 ?_
  refine cf_ask 8 (.int .i64 9) 28 #[.int .i64 1] (by kernel_rfl) (by kernel_rfl) (by kernel_rfl) ?_
  refine cf_go 44 ?_
  rcases Bool.eq_false_or_eq_true ((decide ((rd : Int) < 0))) with hc1 | hc1
  · skip
    refine cf_see 24 (.bool true) (see_bool (by kernel_rfl) hc1) ?_
    refine cf_go 29 ?_
    refine cf_end (.bool false) _ (by kernel_rfl) (by kernel_rfl) rfl ?_
    congr 1; revert hc1; simp only [rightV, okB, show inT 1 = true from rfl, show rdB 1 = true from rfl, show raB 1 = false from rfl, show rbB 1 = false from rfl, show imB 1 = true from rfl, Bool.true_and, Bool.true_or, Bool.false_or, Bool.and_true, Bool.and_false]; simp [regV]; try (first | omega | (intros; simp [*]))
  · skip
    refine cf_see 24 (.bool false) (see_bool (by kernel_rfl) hc1) ?_
    refine cf_go 4 ?_
    rcases Bool.eq_false_or_eq_true ((decide ((rd : Int) ≥ 16))) with hc2 | hc2
    · skip
      refine cf_see 28 (.bool true) (see_bool (by kernel_rfl) hc2) ?_
      refine cf_go 25 ?_
      refine cf_end (.bool false) _ (by kernel_rfl) (by kernel_rfl) rfl ?_
      congr 1; revert hc1 hc2; simp only [rightV, okB, show inT 1 = true from rfl, show rdB 1 = true from rfl, show raB 1 = false from rfl, show rbB 1 = false from rfl, show imB 1 = true from rfl, Bool.true_and, Bool.true_or, Bool.false_or, Bool.and_true, Bool.and_false]; simp [regV]; try (first | omega | (intros; simp [*]))
    · skip
      refine cf_see 28 (.bool false) (see_bool (by kernel_rfl) hc2) ?_
      refine cf_go 48 ?_
      rcases Bool.eq_false_or_eq_true ((decide ((ra : Int) < 0))) with hc3 | hc3
      · skip
        refine cf_see 24 (.bool true) (see_bool (by kernel_rfl) hc3) ?_
        refine cf_go 29 ?_
        refine cf_end (.bool false) _ (by kernel_rfl) (by kernel_rfl) rfl ?_
        congr 1; revert hc1 hc2 hc3; simp only [rightV, okB, show inT 1 = true from rfl, show rdB 1 = true from rfl, show raB 1 = false from rfl, show rbB 1 = false from rfl, show imB 1 = true from rfl, Bool.true_and, Bool.true_or, Bool.false_or, Bool.and_true, Bool.and_false]; simp [regV]; try (first | omega | (intros; simp [*]))
      · skip
        refine cf_see 24 (.bool false) (see_bool (by kernel_rfl) hc3) ?_
        refine cf_go 4 ?_
        rcases Bool.eq_false_or_eq_true ((decide ((ra : Int) ≥ 16))) with hc4 | hc4
        · skip
          refine cf_see 28 (.bool true) (see_bool (by kernel_rfl) hc4) ?_
          refine cf_go 25 ?_
          refine cf_end (.bool false) _ (by kernel_rfl) (by kernel_rfl) rfl ?_
          congr 1; revert hc1 hc2 hc3 hc4; simp only [rightV, okB, show inT 1 = true from rfl, show rdB 1 = true from rfl, show raB 1 = false from rfl, show rbB 1 = false from rfl, show imB 1 = true from rfl, Bool.true_and, Bool.true_or, Bool.false_or, Bool.and_true, Bool.and_false]; simp [regV]; try (first | omega | (intros; simp [*]))
        · skip
          refine cf_see 28 (.bool false) (see_bool (by kernel_rfl) hc4) ?_
          refine cf_go 13 ?_
          rcases Bool.eq_false_or_eq_true (((ra : Int) != 0)) with hc5 | hc5
          · skip
            refine cf_see 39 (.bool true) (see_bool (by kernel_rfl) hc5) ?_
            refine cf_go 12 ?_
            refine cf_end (.bool false) _ (by kernel_rfl) (by kernel_rfl) rfl ?_
            congr 1; revert hc1 hc2 hc3 hc4 hc5; simp only [rightV, okB, show inT 1 = true from rfl, show rdB 1 = true from rfl, show raB 1 = false from rfl, show rbB 1 = false from rfl, show imB 1 = true from rfl, Bool.true_and, Bool.true_or, Bool.false_or, Bool.and_true, Bool.and_false]; simp [regV]; try (first | omega | (intros; simp [*]))
          · skip
            refine cf_see 39 (.bool false) (see_bool (by kernel_rfl) hc5) ?_
            refine cf_go 35 ?_
            rcases Bool.eq_false_or_eq_true ((decide ((rb : Int) < 0))) with hc6 | hc6
            · skip
              refine cf_see 24 (.bool true) (see_bool (by kernel_rfl) hc6) ?_
              refine cf_go 29 ?_
              refine cf_end (.bool false) _ (by kernel_rfl) (by kernel_rfl) rfl ?_
              congr 1; revert hc1 hc2 hc3 hc4 hc5 hc6; simp only [rightV, okB, show inT 1 = true from rfl, show rdB 1 = true from rfl, show raB 1 = false from rfl, show rbB 1 = false from rfl, show imB 1 = true from rfl, Bool.true_and, Bool.true_or, Bool.false_or, Bool.and_true, Bool.and_false]; simp [regV]; try (first | omega | (intros; simp [*]))
            · skip
              refine cf_see 24 (.bool false) (see_bool (by kernel_rfl) hc6) ?_
              refine cf_go 4 ?_
              rcases Bool.eq_false_or_eq_true ((decide ((rb : Int) ≥ 16))) with hc7 | hc7
              · skip
                refine cf_see 28 (.bool true) (see_bool (by kernel_rfl) hc7) ?_
                refine cf_go 25 ?_
                refine cf_end (.bool false) _ (by kernel_rfl) (by kernel_rfl) rfl ?_
                congr 1; revert hc1 hc2 hc3 hc4 hc5 hc6 hc7; simp only [rightV, okB, show inT 1 = true from rfl, show rdB 1 = true from rfl, show raB 1 = false from rfl, show rbB 1 = false from rfl, show imB 1 = true from rfl, Bool.true_and, Bool.true_or, Bool.false_or, Bool.and_true, Bool.and_false]; simp [regV]; try (first | omega | (intros; simp [*]))
              · skip
                refine cf_see 28 (.bool false) (see_bool (by kernel_rfl) hc7) ?_
                refine cf_go 13 ?_
                rcases Bool.eq_false_or_eq_true (((rb : Int) != 0)) with hc8 | hc8
                · skip
                  refine cf_see 39 (.bool true) (see_bool (by kernel_rfl) hc8) ?_
                  refine cf_go 12 ?_
                  refine cf_end (.bool false) _ (by kernel_rfl) (by kernel_rfl) rfl ?_
                  congr 1; revert hc1 hc2 hc3 hc4 hc5 hc6 hc7 hc8; simp only [rightV, okB, show inT 1 = true from rfl, show rdB 1 = true from rfl, show raB 1 = false from rfl, show rbB 1 = false from rfl, show imB 1 = true from rfl, Bool.true_and, Bool.true_or, Bool.false_or, Bool.and_true, Bool.and_false]; simp [regV]; try (first | omega | (intros; simp [*]))
                · skip
                  refine cf_see 39 (.bool false) (see_bool (by kernel_rfl) hc8) ?_
                  refine cf_go 40 ?_
                  refine cf_end (.bool true) _ (by kernel_rfl) (by kernel_rfl) rfl ?_
                  congr 1; revert hc1 hc2 hc3 hc4 hc5 hc6 hc7 hc8; simp only [rightV, okB, show inT 1 = true from rfl, show rdB 1 = true from rfl, show raB 1 = false from rfl, show rbB 1 = false from rfl, show imB 1 = true from rfl, Bool.true_and, Bool.true_or, Bool.false_or, Bool.and_true, Bool.and_false]; simp [regV]; try (first | omega | (intros; simp [*]))
theorem f35_2 {rd ra rb im : Int} : ACall Try.prog T5 35 #[.agg #[.int .i64 2, .int .i64 rd, .int .i64 ra, .int .i64 rb, .int .u32 im]] ⟨.lf, 0⟩ fun r _ => r = .bool (rightV 2 rd ra rb im) := by
  refine acall_cf 53 (initTm 0 #[.agg #[.int .i64 2, .int .i64 rd, .int .i64 ra, .int .i64 rb, .int .u32 im]]) rfl f35_fn f35_body rfl rfl ?_
  refine cf_go 10 ?_
  refine cf_ask 8 (.int .i64 3) 28 #[.int .i64 2] (by kernel_rfl) (by kernel_rfl) (by kernel_rfl) ?_
  refine cf_go 44 ?_
  rcases Bool.eq_false_or_eq_true ((decide ((rd : Int) < 0))) with hc1 | hc1
  · skip
    refine cf_see 24 (.bool true) (see_bool (by kernel_rfl) hc1) ?_
    refine cf_go 29 ?_
    refine cf_end (.bool false) _ (by kernel_rfl) (by kernel_rfl) rfl ?_
    congr 1; revert hc1; simp only [rightV, okB, show inT 2 = true from rfl, show rdB 2 = true from rfl, show raB 2 = true from rfl, show rbB 2 = false from rfl, show imB 2 = false from rfl, Bool.true_and, Bool.true_or, Bool.false_or, Bool.and_true, Bool.and_false]; simp [regV]; try (first | omega | (intros; simp [*]))
  · skip
    refine cf_see 24 (.bool false) (see_bool (by kernel_rfl) hc1) ?_
    refine cf_go 4 ?_
    rcases Bool.eq_false_or_eq_true ((decide ((rd : Int) ≥ 16))) with hc2 | hc2
    · skip
      refine cf_see 28 (.bool true) (see_bool (by kernel_rfl) hc2) ?_
      refine cf_go 25 ?_
      refine cf_end (.bool false) _ (by kernel_rfl) (by kernel_rfl) rfl ?_
      congr 1; revert hc1 hc2; simp only [rightV, okB, show inT 2 = true from rfl, show rdB 2 = true from rfl, show raB 2 = true from rfl, show rbB 2 = false from rfl, show imB 2 = false from rfl, Bool.true_and, Bool.true_or, Bool.false_or, Bool.and_true, Bool.and_false]; simp [regV]; try (first | omega | (intros; simp [*]))
    · skip
      refine cf_see 28 (.bool false) (see_bool (by kernel_rfl) hc2) ?_
      refine cf_go 48 ?_
      rcases Bool.eq_false_or_eq_true ((decide ((ra : Int) < 0))) with hc3 | hc3
      · skip
        refine cf_see 24 (.bool true) (see_bool (by kernel_rfl) hc3) ?_
        refine cf_go 29 ?_
        refine cf_end (.bool false) _ (by kernel_rfl) (by kernel_rfl) rfl ?_
        congr 1; revert hc1 hc2 hc3; simp only [rightV, okB, show inT 2 = true from rfl, show rdB 2 = true from rfl, show raB 2 = true from rfl, show rbB 2 = false from rfl, show imB 2 = false from rfl, Bool.true_and, Bool.true_or, Bool.false_or, Bool.and_true, Bool.and_false]; simp [regV]; try (first | omega | (intros; simp [*]))
      · skip
        refine cf_see 24 (.bool false) (see_bool (by kernel_rfl) hc3) ?_
        refine cf_go 4 ?_
        rcases Bool.eq_false_or_eq_true ((decide ((ra : Int) ≥ 16))) with hc4 | hc4
        · skip
          refine cf_see 28 (.bool true) (see_bool (by kernel_rfl) hc4) ?_
          refine cf_go 25 ?_
          refine cf_end (.bool false) _ (by kernel_rfl) (by kernel_rfl) rfl ?_
          congr 1; revert hc1 hc2 hc3 hc4; simp only [rightV, okB, show inT 2 = true from rfl, show rdB 2 = true from rfl, show raB 2 = true from rfl, show rbB 2 = false from rfl, show imB 2 = false from rfl, Bool.true_and, Bool.true_or, Bool.false_or, Bool.and_true, Bool.and_false]; simp [regV]; try (first | omega | (intros; simp [*]))
        · skip
          refine cf_see 28 (.bool false) (see_bool (by kernel_rfl) hc4) ?_
          refine cf_go 48 ?_
          rcases Bool.eq_false_or_eq_true ((decide ((rb : Int) < 0))) with hc5 | hc5
          · skip
            refine cf_see 24 (.bool true) (see_bool (by kernel_rfl) hc5) ?_
            refine cf_go 29 ?_
            refine cf_end (.bool false) _ (by kernel_rfl) (by kernel_rfl) rfl ?_
            congr 1; revert hc1 hc2 hc3 hc4 hc5; simp only [rightV, okB, show inT 2 = true from rfl, show rdB 2 = true from rfl, show raB 2 = true from rfl, show rbB 2 = false from rfl, show imB 2 = false from rfl, Bool.true_and, Bool.true_or, Bool.false_or, Bool.and_true, Bool.and_false]; simp [regV]; try (first | omega | (intros; simp [*]))
          · skip
            refine cf_see 24 (.bool false) (see_bool (by kernel_rfl) hc5) ?_
            refine cf_go 4 ?_
            rcases Bool.eq_false_or_eq_true ((decide ((rb : Int) ≥ 16))) with hc6 | hc6
            · skip
              refine cf_see 28 (.bool true) (see_bool (by kernel_rfl) hc6) ?_
              refine cf_go 25 ?_
              refine cf_end (.bool false) _ (by kernel_rfl) (by kernel_rfl) rfl ?_
              congr 1; revert hc1 hc2 hc3 hc4 hc5 hc6; simp only [rightV, okB, show inT 2 = true from rfl, show rdB 2 = true from rfl, show raB 2 = true from rfl, show rbB 2 = false from rfl, show imB 2 = false from rfl, Bool.true_and, Bool.true_or, Bool.false_or, Bool.and_true, Bool.and_false]; simp [regV]; try (first | omega | (intros; simp [*]))
            · skip
              refine cf_see 28 (.bool false) (see_bool (by kernel_rfl) hc6) ?_
              refine cf_go 13 ?_
              rcases Bool.eq_false_or_eq_true (((rb : Int) != 0)) with hc7 | hc7
              · skip
                refine cf_see 39 (.bool true) (see_bool (by kernel_rfl) hc7) ?_
                refine cf_go 12 ?_
                refine cf_end (.bool false) _ (by kernel_rfl) (by kernel_rfl) rfl ?_
                congr 1; revert hc1 hc2 hc3 hc4 hc5 hc6 hc7; simp only [rightV, okB, show inT 2 = true from rfl, show rdB 2 = true from rfl, show raB 2 = true from rfl, show rbB 2 = false from rfl, show imB 2 = false from rfl, Bool.true_and, Bool.true_or, Bool.false_or, Bool.and_true, Bool.and_false]; simp [regV]; try (first | omega | (intros; simp [*]))
              · skip
                refine cf_see 39 (.bool false) (see_bool (by kernel_rfl) hc7) ?_
                refine cf_go 40 ?_
                refine cf_end (.bool ((im : Int) == 0)) _ (by kernel_rfl) (by kernel_rfl) rfl ?_
                congr 1; revert hc1 hc2 hc3 hc4 hc5 hc6 hc7; simp only [rightV, okB, show inT 2 = true from rfl, show rdB 2 = true from rfl, show raB 2 = true from rfl, show rbB 2 = false from rfl, show imB 2 = false from rfl, Bool.true_and, Bool.true_or, Bool.false_or, Bool.and_true, Bool.and_false]; simp [regV]; try (first | omega | (intros; simp [*]))
theorem f35_3 {rd ra rb im : Int} : ACall Try.prog T5 35 #[.agg #[.int .i64 3, .int .i64 rd, .int .i64 ra, .int .i64 rb, .int .u32 im]] ⟨.lf, 0⟩ fun r _ => r = .bool (rightV 3 rd ra rb im) := by
  refine acall_cf 53 (initTm 0 #[.agg #[.int .i64 3, .int .i64 rd, .int .i64 ra, .int .i64 rb, .int .u32 im]]) rfl f35_fn f35_body rfl rfl ?_
  refine cf_go 10 ?_
  refine cf_ask 8 (.int .i64 7) 28 #[.int .i64 3] (by kernel_rfl) (by kernel_rfl) (by kernel_rfl) ?_
  refine cf_go 44 ?_
  rcases Bool.eq_false_or_eq_true ((decide ((rd : Int) < 0))) with hc1 | hc1
  · skip
    refine cf_see 24 (.bool true) (see_bool (by kernel_rfl) hc1) ?_
    refine cf_go 29 ?_
    refine cf_end (.bool false) _ (by kernel_rfl) (by kernel_rfl) rfl ?_
    congr 1; revert hc1; simp only [rightV, okB, show inT 3 = true from rfl, show rdB 3 = true from rfl, show raB 3 = true from rfl, show rbB 3 = true from rfl, show imB 3 = false from rfl, Bool.true_and, Bool.true_or, Bool.false_or, Bool.and_true, Bool.and_false]; simp [regV]; try (first | omega | (intros; simp [*]))
  · skip
    refine cf_see 24 (.bool false) (see_bool (by kernel_rfl) hc1) ?_
    refine cf_go 4 ?_
    rcases Bool.eq_false_or_eq_true ((decide ((rd : Int) ≥ 16))) with hc2 | hc2
    · skip
      refine cf_see 28 (.bool true) (see_bool (by kernel_rfl) hc2) ?_
      refine cf_go 25 ?_
      refine cf_end (.bool false) _ (by kernel_rfl) (by kernel_rfl) rfl ?_
      congr 1; revert hc1 hc2; simp only [rightV, okB, show inT 3 = true from rfl, show rdB 3 = true from rfl, show raB 3 = true from rfl, show rbB 3 = true from rfl, show imB 3 = false from rfl, Bool.true_and, Bool.true_or, Bool.false_or, Bool.and_true, Bool.and_false]; simp [regV]; try (first | omega | (intros; simp [*]))
    · skip
      refine cf_see 28 (.bool false) (see_bool (by kernel_rfl) hc2) ?_
      refine cf_go 48 ?_
      rcases Bool.eq_false_or_eq_true ((decide ((ra : Int) < 0))) with hc3 | hc3
      · skip
        refine cf_see 24 (.bool true) (see_bool (by kernel_rfl) hc3) ?_
        refine cf_go 29 ?_
        refine cf_end (.bool false) _ (by kernel_rfl) (by kernel_rfl) rfl ?_
        congr 1; revert hc1 hc2 hc3; simp only [rightV, okB, show inT 3 = true from rfl, show rdB 3 = true from rfl, show raB 3 = true from rfl, show rbB 3 = true from rfl, show imB 3 = false from rfl, Bool.true_and, Bool.true_or, Bool.false_or, Bool.and_true, Bool.and_false]; simp [regV]; try (first | omega | (intros; simp [*]))
      · skip
        refine cf_see 24 (.bool false) (see_bool (by kernel_rfl) hc3) ?_
        refine cf_go 4 ?_
        rcases Bool.eq_false_or_eq_true ((decide ((ra : Int) ≥ 16))) with hc4 | hc4
        · skip
          refine cf_see 28 (.bool true) (see_bool (by kernel_rfl) hc4) ?_
          refine cf_go 25 ?_
          refine cf_end (.bool false) _ (by kernel_rfl) (by kernel_rfl) rfl ?_
          congr 1; revert hc1 hc2 hc3 hc4; simp only [rightV, okB, show inT 3 = true from rfl, show rdB 3 = true from rfl, show raB 3 = true from rfl, show rbB 3 = true from rfl, show imB 3 = false from rfl, Bool.true_and, Bool.true_or, Bool.false_or, Bool.and_true, Bool.and_false]; simp [regV]; try (first | omega | (intros; simp [*]))
        · skip
          refine cf_see 28 (.bool false) (see_bool (by kernel_rfl) hc4) ?_
          refine cf_go 48 ?_
          rcases Bool.eq_false_or_eq_true ((decide ((rb : Int) < 0))) with hc5 | hc5
          · skip
            refine cf_see 24 (.bool true) (see_bool (by kernel_rfl) hc5) ?_
            refine cf_go 29 ?_
            refine cf_end (.bool false) _ (by kernel_rfl) (by kernel_rfl) rfl ?_
            congr 1; revert hc1 hc2 hc3 hc4 hc5; simp only [rightV, okB, show inT 3 = true from rfl, show rdB 3 = true from rfl, show raB 3 = true from rfl, show rbB 3 = true from rfl, show imB 3 = false from rfl, Bool.true_and, Bool.true_or, Bool.false_or, Bool.and_true, Bool.and_false]; simp [regV]; try (first | omega | (intros; simp [*]))
          · skip
            refine cf_see 24 (.bool false) (see_bool (by kernel_rfl) hc5) ?_
            refine cf_go 4 ?_
            rcases Bool.eq_false_or_eq_true ((decide ((rb : Int) ≥ 16))) with hc6 | hc6
            · skip
              refine cf_see 28 (.bool true) (see_bool (by kernel_rfl) hc6) ?_
              refine cf_go 25 ?_
              refine cf_end (.bool false) _ (by kernel_rfl) (by kernel_rfl) rfl ?_
              congr 1; revert hc1 hc2 hc3 hc4 hc5 hc6; simp only [rightV, okB, show inT 3 = true from rfl, show rdB 3 = true from rfl, show raB 3 = true from rfl, show rbB 3 = true from rfl, show imB 3 = false from rfl, Bool.true_and, Bool.true_or, Bool.false_or, Bool.and_true, Bool.and_false]; simp [regV]; try (first | omega | (intros; simp [*]))
            · skip
              refine cf_see 28 (.bool false) (see_bool (by kernel_rfl) hc6) ?_
              refine cf_go 53 ?_
              refine cf_end (.bool ((im : Int) == 0)) _ (by kernel_rfl) (by kernel_rfl) rfl ?_
              congr 1; revert hc1 hc2 hc3 hc4 hc5 hc6; simp only [rightV, okB, show inT 3 = true from rfl, show rdB 3 = true from rfl, show raB 3 = true from rfl, show rbB 3 = true from rfl, show imB 3 = false from rfl, Bool.true_and, Bool.true_or, Bool.false_or, Bool.and_true, Bool.and_false]; simp [regV]; try (first | omega | (intros; simp [*]))
theorem f35_4 {rd ra rb im : Int} : ACall Try.prog T5 35 #[.agg #[.int .i64 4, .int .i64 rd, .int .i64 ra, .int .i64 rb, .int .u32 im]] ⟨.lf, 0⟩ fun r _ => r = .bool (rightV 4 rd ra rb im) := by
  refine acall_cf 53 (initTm 0 #[.agg #[.int .i64 4, .int .i64 rd, .int .i64 ra, .int .i64 rb, .int .u32 im]]) rfl f35_fn f35_body rfl rfl ?_
  refine cf_go 10 ?_
  refine cf_ask 8 (.int .i64 7) 28 #[.int .i64 4] (by kernel_rfl) (by kernel_rfl) (by kernel_rfl) ?_
  refine cf_go 44 ?_
  rcases Bool.eq_false_or_eq_true ((decide ((rd : Int) < 0))) with hc1 | hc1
  · skip
    refine cf_see 24 (.bool true) (see_bool (by kernel_rfl) hc1) ?_
    refine cf_go 29 ?_
    refine cf_end (.bool false) _ (by kernel_rfl) (by kernel_rfl) rfl ?_
    congr 1; revert hc1; simp only [rightV, okB, show inT 4 = true from rfl, show rdB 4 = true from rfl, show raB 4 = true from rfl, show rbB 4 = true from rfl, show imB 4 = false from rfl, Bool.true_and, Bool.true_or, Bool.false_or, Bool.and_true, Bool.and_false]; simp [regV]; try (first | omega | (intros; simp [*]))
  · skip
    refine cf_see 24 (.bool false) (see_bool (by kernel_rfl) hc1) ?_
    refine cf_go 4 ?_
    rcases Bool.eq_false_or_eq_true ((decide ((rd : Int) ≥ 16))) with hc2 | hc2
    · skip
      refine cf_see 28 (.bool true) (see_bool (by kernel_rfl) hc2) ?_
      refine cf_go 25 ?_
      refine cf_end (.bool false) _ (by kernel_rfl) (by kernel_rfl) rfl ?_
      congr 1; revert hc1 hc2; simp only [rightV, okB, show inT 4 = true from rfl, show rdB 4 = true from rfl, show raB 4 = true from rfl, show rbB 4 = true from rfl, show imB 4 = false from rfl, Bool.true_and, Bool.true_or, Bool.false_or, Bool.and_true, Bool.and_false]; simp [regV]; try (first | omega | (intros; simp [*]))
    · skip
      refine cf_see 28 (.bool false) (see_bool (by kernel_rfl) hc2) ?_
      refine cf_go 48 ?_
      rcases Bool.eq_false_or_eq_true ((decide ((ra : Int) < 0))) with hc3 | hc3
      · skip
        refine cf_see 24 (.bool true) (see_bool (by kernel_rfl) hc3) ?_
        refine cf_go 29 ?_
        refine cf_end (.bool false) _ (by kernel_rfl) (by kernel_rfl) rfl ?_
        congr 1; revert hc1 hc2 hc3; simp only [rightV, okB, show inT 4 = true from rfl, show rdB 4 = true from rfl, show raB 4 = true from rfl, show rbB 4 = true from rfl, show imB 4 = false from rfl, Bool.true_and, Bool.true_or, Bool.false_or, Bool.and_true, Bool.and_false]; simp [regV]; try (first | omega | (intros; simp [*]))
      · skip
        refine cf_see 24 (.bool false) (see_bool (by kernel_rfl) hc3) ?_
        refine cf_go 4 ?_
        rcases Bool.eq_false_or_eq_true ((decide ((ra : Int) ≥ 16))) with hc4 | hc4
        · skip
          refine cf_see 28 (.bool true) (see_bool (by kernel_rfl) hc4) ?_
          refine cf_go 25 ?_
          refine cf_end (.bool false) _ (by kernel_rfl) (by kernel_rfl) rfl ?_
          congr 1; revert hc1 hc2 hc3 hc4; simp only [rightV, okB, show inT 4 = true from rfl, show rdB 4 = true from rfl, show raB 4 = true from rfl, show rbB 4 = true from rfl, show imB 4 = false from rfl, Bool.true_and, Bool.true_or, Bool.false_or, Bool.and_true, Bool.and_false]; simp [regV]; try (first | omega | (intros; simp [*]))
        · skip
          refine cf_see 28 (.bool false) (see_bool (by kernel_rfl) hc4) ?_
          refine cf_go 48 ?_
          rcases Bool.eq_false_or_eq_true ((decide ((rb : Int) < 0))) with hc5 | hc5
          · skip
            refine cf_see 24 (.bool true) (see_bool (by kernel_rfl) hc5) ?_
            refine cf_go 29 ?_
            refine cf_end (.bool false) _ (by kernel_rfl) (by kernel_rfl) rfl ?_
            congr 1; revert hc1 hc2 hc3 hc4 hc5; simp only [rightV, okB, show inT 4 = true from rfl, show rdB 4 = true from rfl, show raB 4 = true from rfl, show rbB 4 = true from rfl, show imB 4 = false from rfl, Bool.true_and, Bool.true_or, Bool.false_or, Bool.and_true, Bool.and_false]; simp [regV]; try (first | omega | (intros; simp [*]))
          · skip
            refine cf_see 24 (.bool false) (see_bool (by kernel_rfl) hc5) ?_
            refine cf_go 4 ?_
            rcases Bool.eq_false_or_eq_true ((decide ((rb : Int) ≥ 16))) with hc6 | hc6
            · skip
              refine cf_see 28 (.bool true) (see_bool (by kernel_rfl) hc6) ?_
              refine cf_go 25 ?_
              refine cf_end (.bool false) _ (by kernel_rfl) (by kernel_rfl) rfl ?_
              congr 1; revert hc1 hc2 hc3 hc4 hc5 hc6; simp only [rightV, okB, show inT 4 = true from rfl, show rdB 4 = true from rfl, show raB 4 = true from rfl, show rbB 4 = true from rfl, show imB 4 = false from rfl, Bool.true_and, Bool.true_or, Bool.false_or, Bool.and_true, Bool.and_false]; simp [regV]; try (first | omega | (intros; simp [*]))
            · skip
              refine cf_see 28 (.bool false) (see_bool (by kernel_rfl) hc6) ?_
              refine cf_go 53 ?_
              refine cf_end (.bool ((im : Int) == 0)) _ (by kernel_rfl) (by kernel_rfl) rfl ?_
              congr 1; revert hc1 hc2 hc3 hc4 hc5 hc6; simp only [rightV, okB, show inT 4 = true from rfl, show rdB 4 = true from rfl, show raB 4 = true from rfl, show rbB 4 = true from rfl, show imB 4 = false from rfl, Bool.true_and, Bool.true_or, Bool.false_or, Bool.and_true, Bool.and_false]; simp [regV]; try (first | omega | (intros; simp [*]))
theorem f35_5 {rd ra rb im : Int} : ACall Try.prog T5 35 #[.agg #[.int .i64 5, .int .i64 rd, .int .i64 ra, .int .i64 rb, .int .u32 im]] ⟨.lf, 0⟩ fun r _ => r = .bool (rightV 5 rd ra rb im) := by
  refine acall_cf 53 (initTm 0 #[.agg #[.int .i64 5, .int .i64 rd, .int .i64 ra, .int .i64 rb, .int .u32 im]]) rfl f35_fn f35_body rfl rfl ?_
  refine cf_go 10 ?_
  refine cf_ask 8 (.int .i64 7) 28 #[.int .i64 5] (by kernel_rfl) (by kernel_rfl) (by kernel_rfl) ?_
  refine cf_go 44 ?_
  rcases Bool.eq_false_or_eq_true ((decide ((rd : Int) < 0))) with hc1 | hc1
  · skip
    refine cf_see 24 (.bool true) (see_bool (by kernel_rfl) hc1) ?_
    refine cf_go 29 ?_
    refine cf_end (.bool false) _ (by kernel_rfl) (by kernel_rfl) rfl ?_
    congr 1; revert hc1; simp only [rightV, okB, show inT 5 = true from rfl, show rdB 5 = true from rfl, show raB 5 = true from rfl, show rbB 5 = true from rfl, show imB 5 = false from rfl, Bool.true_and, Bool.true_or, Bool.false_or, Bool.and_true, Bool.and_false]; simp [regV]; try (first | omega | (intros; simp [*]))
  · skip
    refine cf_see 24 (.bool false) (see_bool (by kernel_rfl) hc1) ?_
    refine cf_go 4 ?_
    rcases Bool.eq_false_or_eq_true ((decide ((rd : Int) ≥ 16))) with hc2 | hc2
    · skip
      refine cf_see 28 (.bool true) (see_bool (by kernel_rfl) hc2) ?_
      refine cf_go 25 ?_
      refine cf_end (.bool false) _ (by kernel_rfl) (by kernel_rfl) rfl ?_
      congr 1; revert hc1 hc2; simp only [rightV, okB, show inT 5 = true from rfl, show rdB 5 = true from rfl, show raB 5 = true from rfl, show rbB 5 = true from rfl, show imB 5 = false from rfl, Bool.true_and, Bool.true_or, Bool.false_or, Bool.and_true, Bool.and_false]; simp [regV]; try (first | omega | (intros; simp [*]))
    · skip
      refine cf_see 28 (.bool false) (see_bool (by kernel_rfl) hc2) ?_
      refine cf_go 48 ?_
      rcases Bool.eq_false_or_eq_true ((decide ((ra : Int) < 0))) with hc3 | hc3
      · skip
        refine cf_see 24 (.bool true) (see_bool (by kernel_rfl) hc3) ?_
        refine cf_go 29 ?_
        refine cf_end (.bool false) _ (by kernel_rfl) (by kernel_rfl) rfl ?_
        congr 1; revert hc1 hc2 hc3; simp only [rightV, okB, show inT 5 = true from rfl, show rdB 5 = true from rfl, show raB 5 = true from rfl, show rbB 5 = true from rfl, show imB 5 = false from rfl, Bool.true_and, Bool.true_or, Bool.false_or, Bool.and_true, Bool.and_false]; simp [regV]; try (first | omega | (intros; simp [*]))
      · skip
        refine cf_see 24 (.bool false) (see_bool (by kernel_rfl) hc3) ?_
        refine cf_go 4 ?_
        rcases Bool.eq_false_or_eq_true ((decide ((ra : Int) ≥ 16))) with hc4 | hc4
        · skip
          refine cf_see 28 (.bool true) (see_bool (by kernel_rfl) hc4) ?_
          refine cf_go 25 ?_
          refine cf_end (.bool false) _ (by kernel_rfl) (by kernel_rfl) rfl ?_
          congr 1; revert hc1 hc2 hc3 hc4; simp only [rightV, okB, show inT 5 = true from rfl, show rdB 5 = true from rfl, show raB 5 = true from rfl, show rbB 5 = true from rfl, show imB 5 = false from rfl, Bool.true_and, Bool.true_or, Bool.false_or, Bool.and_true, Bool.and_false]; simp [regV]; try (first | omega | (intros; simp [*]))
        · skip
          refine cf_see 28 (.bool false) (see_bool (by kernel_rfl) hc4) ?_
          refine cf_go 48 ?_
          rcases Bool.eq_false_or_eq_true ((decide ((rb : Int) < 0))) with hc5 | hc5
          · skip
            refine cf_see 24 (.bool true) (see_bool (by kernel_rfl) hc5) ?_
            refine cf_go 29 ?_
            refine cf_end (.bool false) _ (by kernel_rfl) (by kernel_rfl) rfl ?_
            congr 1; revert hc1 hc2 hc3 hc4 hc5; simp only [rightV, okB, show inT 5 = true from rfl, show rdB 5 = true from rfl, show raB 5 = true from rfl, show rbB 5 = true from rfl, show imB 5 = false from rfl, Bool.true_and, Bool.true_or, Bool.false_or, Bool.and_true, Bool.and_false]; simp [regV]; try (first | omega | (intros; simp [*]))
          · skip
            refine cf_see 24 (.bool false) (see_bool (by kernel_rfl) hc5) ?_
            refine cf_go 4 ?_
            rcases Bool.eq_false_or_eq_true ((decide ((rb : Int) ≥ 16))) with hc6 | hc6
            · skip
              refine cf_see 28 (.bool true) (see_bool (by kernel_rfl) hc6) ?_
              refine cf_go 25 ?_
              refine cf_end (.bool false) _ (by kernel_rfl) (by kernel_rfl) rfl ?_
              congr 1; revert hc1 hc2 hc3 hc4 hc5 hc6; simp only [rightV, okB, show inT 5 = true from rfl, show rdB 5 = true from rfl, show raB 5 = true from rfl, show rbB 5 = true from rfl, show imB 5 = false from rfl, Bool.true_and, Bool.true_or, Bool.false_or, Bool.and_true, Bool.and_false]; simp [regV]; try (first | omega | (intros; simp [*]))
            · skip
              refine cf_see 28 (.bool false) (see_bool (by kernel_rfl) hc6) ?_
              refine cf_go 53 ?_
              refine cf_end (.bool ((im : Int) == 0)) _ (by kernel_rfl) (by kernel_rfl) rfl ?_
              congr 1; revert hc1 hc2 hc3 hc4 hc5 hc6; simp only [rightV, okB, show inT 5 = true from rfl, show rdB 5 = true from rfl, show raB 5 = true from rfl, show rbB 5 = true from rfl, show imB 5 = false from rfl, Bool.true_and, Bool.true_or, Bool.false_or, Bool.and_true, Bool.and_false]; simp [regV]; try (first | omega | (intros; simp [*]))
theorem f35_6 {rd ra rb im : Int} : ACall Try.prog T5 35 #[.agg #[.int .i64 6, .int .i64 rd, .int .i64 ra, .int .i64 rb, .int .u32 im]] ⟨.lf, 0⟩ fun r _ => r = .bool (rightV 6 rd ra rb im) := by
  refine acall_cf 53 (initTm 0 #[.agg #[.int .i64 6, .int .i64 rd, .int .i64 ra, .int .i64 rb, .int .u32 im]]) rfl f35_fn f35_body rfl rfl ?_
  refine cf_go 10 ?_
  refine cf_ask 8 (.int .i64 7) 28 #[.int .i64 6] (by kernel_rfl) (by kernel_rfl) (by kernel_rfl) ?_
  refine cf_go 44 ?_
  rcases Bool.eq_false_or_eq_true ((decide ((rd : Int) < 0))) with hc1 | hc1
  · skip
    refine cf_see 24 (.bool true) (see_bool (by kernel_rfl) hc1) ?_
    refine cf_go 29 ?_
    refine cf_end (.bool false) _ (by kernel_rfl) (by kernel_rfl) rfl ?_
    congr 1; revert hc1; simp only [rightV, okB, show inT 6 = true from rfl, show rdB 6 = true from rfl, show raB 6 = true from rfl, show rbB 6 = true from rfl, show imB 6 = false from rfl, Bool.true_and, Bool.true_or, Bool.false_or, Bool.and_true, Bool.and_false]; simp [regV]; try (first | omega | (intros; simp [*]))
  · skip
    refine cf_see 24 (.bool false) (see_bool (by kernel_rfl) hc1) ?_
    refine cf_go 4 ?_
    rcases Bool.eq_false_or_eq_true ((decide ((rd : Int) ≥ 16))) with hc2 | hc2
    · skip
      refine cf_see 28 (.bool true) (see_bool (by kernel_rfl) hc2) ?_
      refine cf_go 25 ?_
      refine cf_end (.bool false) _ (by kernel_rfl) (by kernel_rfl) rfl ?_
      congr 1; revert hc1 hc2; simp only [rightV, okB, show inT 6 = true from rfl, show rdB 6 = true from rfl, show raB 6 = true from rfl, show rbB 6 = true from rfl, show imB 6 = false from rfl, Bool.true_and, Bool.true_or, Bool.false_or, Bool.and_true, Bool.and_false]; simp [regV]; try (first | omega | (intros; simp [*]))
    · skip
      refine cf_see 28 (.bool false) (see_bool (by kernel_rfl) hc2) ?_
      refine cf_go 48 ?_
      rcases Bool.eq_false_or_eq_true ((decide ((ra : Int) < 0))) with hc3 | hc3
      · skip
        refine cf_see 24 (.bool true) (see_bool (by kernel_rfl) hc3) ?_
        refine cf_go 29 ?_
        refine cf_end (.bool false) _ (by kernel_rfl) (by kernel_rfl) rfl ?_
        congr 1; revert hc1 hc2 hc3; simp only [rightV, okB, show inT 6 = true from rfl, show rdB 6 = true from rfl, show raB 6 = true from rfl, show rbB 6 = true from rfl, show imB 6 = false from rfl, Bool.true_and, Bool.true_or, Bool.false_or, Bool.and_true, Bool.and_false]; simp [regV]; try (first | omega | (intros; simp [*]))
      · skip
        refine cf_see 24 (.bool false) (see_bool (by kernel_rfl) hc3) ?_
        refine cf_go 4 ?_
        rcases Bool.eq_false_or_eq_true ((decide ((ra : Int) ≥ 16))) with hc4 | hc4
        · skip
          refine cf_see 28 (.bool true) (see_bool (by kernel_rfl) hc4) ?_
          refine cf_go 25 ?_
          refine cf_end (.bool false) _ (by kernel_rfl) (by kernel_rfl) rfl ?_
          congr 1; revert hc1 hc2 hc3 hc4; simp only [rightV, okB, show inT 6 = true from rfl, show rdB 6 = true from rfl, show raB 6 = true from rfl, show rbB 6 = true from rfl, show imB 6 = false from rfl, Bool.true_and, Bool.true_or, Bool.false_or, Bool.and_true, Bool.and_false]; simp [regV]; try (first | omega | (intros; simp [*]))
        · skip
          refine cf_see 28 (.bool false) (see_bool (by kernel_rfl) hc4) ?_
          refine cf_go 48 ?_
          rcases Bool.eq_false_or_eq_true ((decide ((rb : Int) < 0))) with hc5 | hc5
          · skip
            refine cf_see 24 (.bool true) (see_bool (by kernel_rfl) hc5) ?_
            refine cf_go 29 ?_
            refine cf_end (.bool false) _ (by kernel_rfl) (by kernel_rfl) rfl ?_
            congr 1; revert hc1 hc2 hc3 hc4 hc5; simp only [rightV, okB, show inT 6 = true from rfl, show rdB 6 = true from rfl, show raB 6 = true from rfl, show rbB 6 = true from rfl, show imB 6 = false from rfl, Bool.true_and, Bool.true_or, Bool.false_or, Bool.and_true, Bool.and_false]; simp [regV]; try (first | omega | (intros; simp [*]))
          · skip
            refine cf_see 24 (.bool false) (see_bool (by kernel_rfl) hc5) ?_
            refine cf_go 4 ?_
            rcases Bool.eq_false_or_eq_true ((decide ((rb : Int) ≥ 16))) with hc6 | hc6
            · skip
              refine cf_see 28 (.bool true) (see_bool (by kernel_rfl) hc6) ?_
              refine cf_go 25 ?_
              refine cf_end (.bool false) _ (by kernel_rfl) (by kernel_rfl) rfl ?_
              congr 1; revert hc1 hc2 hc3 hc4 hc5 hc6; simp only [rightV, okB, show inT 6 = true from rfl, show rdB 6 = true from rfl, show raB 6 = true from rfl, show rbB 6 = true from rfl, show imB 6 = false from rfl, Bool.true_and, Bool.true_or, Bool.false_or, Bool.and_true, Bool.and_false]; simp [regV]; try (first | omega | (intros; simp [*]))
            · skip
              refine cf_see 28 (.bool false) (see_bool (by kernel_rfl) hc6) ?_
              refine cf_go 53 ?_
              refine cf_end (.bool ((im : Int) == 0)) _ (by kernel_rfl) (by kernel_rfl) rfl ?_
              congr 1; revert hc1 hc2 hc3 hc4 hc5 hc6; simp only [rightV, okB, show inT 6 = true from rfl, show rdB 6 = true from rfl, show raB 6 = true from rfl, show rbB 6 = true from rfl, show imB 6 = false from rfl, Bool.true_and, Bool.true_or, Bool.false_or, Bool.and_true, Bool.and_false]; simp [regV]; try (first | omega | (intros; simp [*]))
theorem f35_7 {rd ra rb im : Int} : ACall Try.prog T5 35 #[.agg #[.int .i64 7, .int .i64 rd, .int .i64 ra, .int .i64 rb, .int .u32 im]] ⟨.lf, 0⟩ fun r _ => r = .bool (rightV 7 rd ra rb im) := by
  refine acall_cf 53 (initTm 0 #[.agg #[.int .i64 7, .int .i64 rd, .int .i64 ra, .int .i64 rb, .int .u32 im]]) rfl f35_fn f35_body rfl rfl ?_
  refine cf_go 10 ?_
  refine cf_ask 8 (.int .i64 7) 28 #[.int .i64 7] (by kernel_rfl) (by kernel_rfl) (by kernel_rfl) ?_
  refine cf_go 44 ?_
  rcases Bool.eq_false_or_eq_true ((decide ((rd : Int) < 0))) with hc1 | hc1
  · skip
    refine cf_see 24 (.bool true) (see_bool (by kernel_rfl) hc1) ?_
    refine cf_go 29 ?_
    refine cf_end (.bool false) _ (by kernel_rfl) (by kernel_rfl) rfl ?_
    congr 1; revert hc1; simp only [rightV, okB, show inT 7 = true from rfl, show rdB 7 = true from rfl, show raB 7 = true from rfl, show rbB 7 = true from rfl, show imB 7 = false from rfl, Bool.true_and, Bool.true_or, Bool.false_or, Bool.and_true, Bool.and_false]; simp [regV]; try (first | omega | (intros; simp [*]))
  · skip
    refine cf_see 24 (.bool false) (see_bool (by kernel_rfl) hc1) ?_
    refine cf_go 4 ?_
    rcases Bool.eq_false_or_eq_true ((decide ((rd : Int) ≥ 16))) with hc2 | hc2
    · skip
      refine cf_see 28 (.bool true) (see_bool (by kernel_rfl) hc2) ?_
      refine cf_go 25 ?_
      refine cf_end (.bool false) _ (by kernel_rfl) (by kernel_rfl) rfl ?_
      congr 1; revert hc1 hc2; simp only [rightV, okB, show inT 7 = true from rfl, show rdB 7 = true from rfl, show raB 7 = true from rfl, show rbB 7 = true from rfl, show imB 7 = false from rfl, Bool.true_and, Bool.true_or, Bool.false_or, Bool.and_true, Bool.and_false]; simp [regV]; try (first | omega | (intros; simp [*]))
    · skip
      refine cf_see 28 (.bool false) (see_bool (by kernel_rfl) hc2) ?_
      refine cf_go 48 ?_
      rcases Bool.eq_false_or_eq_true ((decide ((ra : Int) < 0))) with hc3 | hc3
      · skip
        refine cf_see 24 (.bool true) (see_bool (by kernel_rfl) hc3) ?_
        refine cf_go 29 ?_
        refine cf_end (.bool false) _ (by kernel_rfl) (by kernel_rfl) rfl ?_
        congr 1; revert hc1 hc2 hc3; simp only [rightV, okB, show inT 7 = true from rfl, show rdB 7 = true from rfl, show raB 7 = true from rfl, show rbB 7 = true from rfl, show imB 7 = false from rfl, Bool.true_and, Bool.true_or, Bool.false_or, Bool.and_true, Bool.and_false]; simp [regV]; try (first | omega | (intros; simp [*]))
      · skip
        refine cf_see 24 (.bool false) (see_bool (by kernel_rfl) hc3) ?_
        refine cf_go 4 ?_
        rcases Bool.eq_false_or_eq_true ((decide ((ra : Int) ≥ 16))) with hc4 | hc4
        · skip
          refine cf_see 28 (.bool true) (see_bool (by kernel_rfl) hc4) ?_
          refine cf_go 25 ?_
          refine cf_end (.bool false) _ (by kernel_rfl) (by kernel_rfl) rfl ?_
          congr 1; revert hc1 hc2 hc3 hc4; simp only [rightV, okB, show inT 7 = true from rfl, show rdB 7 = true from rfl, show raB 7 = true from rfl, show rbB 7 = true from rfl, show imB 7 = false from rfl, Bool.true_and, Bool.true_or, Bool.false_or, Bool.and_true, Bool.and_false]; simp [regV]; try (first | omega | (intros; simp [*]))
        · skip
          refine cf_see 28 (.bool false) (see_bool (by kernel_rfl) hc4) ?_
          refine cf_go 48 ?_
          rcases Bool.eq_false_or_eq_true ((decide ((rb : Int) < 0))) with hc5 | hc5
          · skip
            refine cf_see 24 (.bool true) (see_bool (by kernel_rfl) hc5) ?_
            refine cf_go 29 ?_
            refine cf_end (.bool false) _ (by kernel_rfl) (by kernel_rfl) rfl ?_
            congr 1; revert hc1 hc2 hc3 hc4 hc5; simp only [rightV, okB, show inT 7 = true from rfl, show rdB 7 = true from rfl, show raB 7 = true from rfl, show rbB 7 = true from rfl, show imB 7 = false from rfl, Bool.true_and, Bool.true_or, Bool.false_or, Bool.and_true, Bool.and_false]; simp [regV]; try (first | omega | (intros; simp [*]))
          · skip
            refine cf_see 24 (.bool false) (see_bool (by kernel_rfl) hc5) ?_
            refine cf_go 4 ?_
            rcases Bool.eq_false_or_eq_true ((decide ((rb : Int) ≥ 16))) with hc6 | hc6
            · skip
              refine cf_see 28 (.bool true) (see_bool (by kernel_rfl) hc6) ?_
              refine cf_go 25 ?_
              refine cf_end (.bool false) _ (by kernel_rfl) (by kernel_rfl) rfl ?_
              congr 1; revert hc1 hc2 hc3 hc4 hc5 hc6; simp only [rightV, okB, show inT 7 = true from rfl, show rdB 7 = true from rfl, show raB 7 = true from rfl, show rbB 7 = true from rfl, show imB 7 = false from rfl, Bool.true_and, Bool.true_or, Bool.false_or, Bool.and_true, Bool.and_false]; simp [regV]; try (first | omega | (intros; simp [*]))
            · skip
              refine cf_see 28 (.bool false) (see_bool (by kernel_rfl) hc6) ?_
              refine cf_go 53 ?_
              refine cf_end (.bool ((im : Int) == 0)) _ (by kernel_rfl) (by kernel_rfl) rfl ?_
              congr 1; revert hc1 hc2 hc3 hc4 hc5 hc6; simp only [rightV, okB, show inT 7 = true from rfl, show rdB 7 = true from rfl, show raB 7 = true from rfl, show rbB 7 = true from rfl, show imB 7 = false from rfl, Bool.true_and, Bool.true_or, Bool.false_or, Bool.and_true, Bool.and_false]; simp [regV]; try (first | omega | (intros; simp [*]))
theorem f35_8 {rd ra rb im : Int} : ACall Try.prog T5 35 #[.agg #[.int .i64 8, .int .i64 rd, .int .i64 ra, .int .i64 rb, .int .u32 im]] ⟨.lf, 0⟩ fun r _ => r = .bool (rightV 8 rd ra rb im) := by
  refine acall_cf 53 (initTm 0 #[.agg #[.int .i64 8, .int .i64 rd, .int .i64 ra, .int .i64 rb, .int .u32 im]]) rfl f35_fn f35_body rfl rfl ?_
  refine cf_go 10 ?_
  refine cf_ask 8 (.int .i64 7) 28 #[.int .i64 8] (by kernel_rfl) (by kernel_rfl) (by kernel_rfl) ?_
  refine cf_go 44 ?_
  rcases Bool.eq_false_or_eq_true ((decide ((rd : Int) < 0))) with hc1 | hc1
  · skip
    refine cf_see 24 (.bool true) (see_bool (by kernel_rfl) hc1) ?_
    refine cf_go 29 ?_
    refine cf_end (.bool false) _ (by kernel_rfl) (by kernel_rfl) rfl ?_
    congr 1; revert hc1; simp only [rightV, okB, show inT 8 = true from rfl, show rdB 8 = true from rfl, show raB 8 = true from rfl, show rbB 8 = true from rfl, show imB 8 = false from rfl, Bool.true_and, Bool.true_or, Bool.false_or, Bool.and_true, Bool.and_false]; simp [regV]; try (first | omega | (intros; simp [*]))
  · skip
    refine cf_see 24 (.bool false) (see_bool (by kernel_rfl) hc1) ?_
    refine cf_go 4 ?_
    rcases Bool.eq_false_or_eq_true ((decide ((rd : Int) ≥ 16))) with hc2 | hc2
    · skip
      refine cf_see 28 (.bool true) (see_bool (by kernel_rfl) hc2) ?_
      refine cf_go 25 ?_
      refine cf_end (.bool false) _ (by kernel_rfl) (by kernel_rfl) rfl ?_
      congr 1; revert hc1 hc2; simp only [rightV, okB, show inT 8 = true from rfl, show rdB 8 = true from rfl, show raB 8 = true from rfl, show rbB 8 = true from rfl, show imB 8 = false from rfl, Bool.true_and, Bool.true_or, Bool.false_or, Bool.and_true, Bool.and_false]; simp [regV]; try (first | omega | (intros; simp [*]))
    · skip
      refine cf_see 28 (.bool false) (see_bool (by kernel_rfl) hc2) ?_
      refine cf_go 48 ?_
      rcases Bool.eq_false_or_eq_true ((decide ((ra : Int) < 0))) with hc3 | hc3
      · skip
        refine cf_see 24 (.bool true) (see_bool (by kernel_rfl) hc3) ?_
        refine cf_go 29 ?_
        refine cf_end (.bool false) _ (by kernel_rfl) (by kernel_rfl) rfl ?_
        congr 1; revert hc1 hc2 hc3; simp only [rightV, okB, show inT 8 = true from rfl, show rdB 8 = true from rfl, show raB 8 = true from rfl, show rbB 8 = true from rfl, show imB 8 = false from rfl, Bool.true_and, Bool.true_or, Bool.false_or, Bool.and_true, Bool.and_false]; simp [regV]; try (first | omega | (intros; simp [*]))
      · skip
        refine cf_see 24 (.bool false) (see_bool (by kernel_rfl) hc3) ?_
        refine cf_go 4 ?_
        rcases Bool.eq_false_or_eq_true ((decide ((ra : Int) ≥ 16))) with hc4 | hc4
        · skip
          refine cf_see 28 (.bool true) (see_bool (by kernel_rfl) hc4) ?_
          refine cf_go 25 ?_
          refine cf_end (.bool false) _ (by kernel_rfl) (by kernel_rfl) rfl ?_
          congr 1; revert hc1 hc2 hc3 hc4; simp only [rightV, okB, show inT 8 = true from rfl, show rdB 8 = true from rfl, show raB 8 = true from rfl, show rbB 8 = true from rfl, show imB 8 = false from rfl, Bool.true_and, Bool.true_or, Bool.false_or, Bool.and_true, Bool.and_false]; simp [regV]; try (first | omega | (intros; simp [*]))
        · skip
          refine cf_see 28 (.bool false) (see_bool (by kernel_rfl) hc4) ?_
          refine cf_go 48 ?_
          rcases Bool.eq_false_or_eq_true ((decide ((rb : Int) < 0))) with hc5 | hc5
          · skip
            refine cf_see 24 (.bool true) (see_bool (by kernel_rfl) hc5) ?_
            refine cf_go 29 ?_
            refine cf_end (.bool false) _ (by kernel_rfl) (by kernel_rfl) rfl ?_
            congr 1; revert hc1 hc2 hc3 hc4 hc5; simp only [rightV, okB, show inT 8 = true from rfl, show rdB 8 = true from rfl, show raB 8 = true from rfl, show rbB 8 = true from rfl, show imB 8 = false from rfl, Bool.true_and, Bool.true_or, Bool.false_or, Bool.and_true, Bool.and_false]; simp [regV]; try (first | omega | (intros; simp [*]))
          · skip
            refine cf_see 24 (.bool false) (see_bool (by kernel_rfl) hc5) ?_
            refine cf_go 4 ?_
            rcases Bool.eq_false_or_eq_true ((decide ((rb : Int) ≥ 16))) with hc6 | hc6
            · skip
              refine cf_see 28 (.bool true) (see_bool (by kernel_rfl) hc6) ?_
              refine cf_go 25 ?_
              refine cf_end (.bool false) _ (by kernel_rfl) (by kernel_rfl) rfl ?_
              congr 1; revert hc1 hc2 hc3 hc4 hc5 hc6; simp only [rightV, okB, show inT 8 = true from rfl, show rdB 8 = true from rfl, show raB 8 = true from rfl, show rbB 8 = true from rfl, show imB 8 = false from rfl, Bool.true_and, Bool.true_or, Bool.false_or, Bool.and_true, Bool.and_false]; simp [regV]; try (first | omega | (intros; simp [*]))
            · skip
              refine cf_see 28 (.bool false) (see_bool (by kernel_rfl) hc6) ?_
              refine cf_go 53 ?_
              refine cf_end (.bool ((im : Int) == 0)) _ (by kernel_rfl) (by kernel_rfl) rfl ?_
              congr 1; revert hc1 hc2 hc3 hc4 hc5 hc6; simp only [rightV, okB, show inT 8 = true from rfl, show rdB 8 = true from rfl, show raB 8 = true from rfl, show rbB 8 = true from rfl, show imB 8 = false from rfl, Bool.true_and, Bool.true_or, Bool.false_or, Bool.and_true, Bool.and_false]; simp [regV]; try (first | omega | (intros; simp [*]))
theorem f35_9 {rd ra rb im : Int} : ACall Try.prog T5 35 #[.agg #[.int .i64 9, .int .i64 rd, .int .i64 ra, .int .i64 rb, .int .u32 im]] ⟨.lf, 0⟩ fun r _ => r = .bool (rightV 9 rd ra rb im) := by
  refine acall_cf 53 (initTm 0 #[.agg #[.int .i64 9, .int .i64 rd, .int .i64 ra, .int .i64 rb, .int .u32 im]]) rfl f35_fn f35_body rfl rfl ?_
  refine cf_go 10 ?_
  refine cf_ask 8 (.int .i64 7) 28 #[.int .i64 9] (by kernel_rfl) (by kernel_rfl) (by kernel_rfl) ?_
  refine cf_go 44 ?_
  rcases Bool.eq_false_or_eq_true ((decide ((rd : Int) < 0))) with hc1 | hc1
  · skip
    refine cf_see 24 (.bool true) (see_bool (by kernel_rfl) hc1) ?_
    refine cf_go 29 ?_
    refine cf_end (.bool false) _ (by kernel_rfl) (by kernel_rfl) rfl ?_
    congr 1; revert hc1; simp only [rightV, okB, show inT 9 = true from rfl, show rdB 9 = true from rfl, show raB 9 = true from rfl, show rbB 9 = true from rfl, show imB 9 = false from rfl, Bool.true_and, Bool.true_or, Bool.false_or, Bool.and_true, Bool.and_false]; simp [regV]; try (first | omega | (intros; simp [*]))
  · skip
    refine cf_see 24 (.bool false) (see_bool (by kernel_rfl) hc1) ?_
    refine cf_go 4 ?_
    rcases Bool.eq_false_or_eq_true ((decide ((rd : Int) ≥ 16))) with hc2 | hc2
    · skip
      refine cf_see 28 (.bool true) (see_bool (by kernel_rfl) hc2) ?_
      refine cf_go 25 ?_
      refine cf_end (.bool false) _ (by kernel_rfl) (by kernel_rfl) rfl ?_
      congr 1; revert hc1 hc2; simp only [rightV, okB, show inT 9 = true from rfl, show rdB 9 = true from rfl, show raB 9 = true from rfl, show rbB 9 = true from rfl, show imB 9 = false from rfl, Bool.true_and, Bool.true_or, Bool.false_or, Bool.and_true, Bool.and_false]; simp [regV]; try (first | omega | (intros; simp [*]))
    · skip
      refine cf_see 28 (.bool false) (see_bool (by kernel_rfl) hc2) ?_
      refine cf_go 48 ?_
      rcases Bool.eq_false_or_eq_true ((decide ((ra : Int) < 0))) with hc3 | hc3
      · skip
        refine cf_see 24 (.bool true) (see_bool (by kernel_rfl) hc3) ?_
        refine cf_go 29 ?_
        refine cf_end (.bool false) _ (by kernel_rfl) (by kernel_rfl) rfl ?_
        congr 1; revert hc1 hc2 hc3; simp only [rightV, okB, show inT 9 = true from rfl, show rdB 9 = true from rfl, show raB 9 = true from rfl, show rbB 9 = true from rfl, show imB 9 = false from rfl, Bool.true_and, Bool.true_or, Bool.false_or, Bool.and_true, Bool.and_false]; simp [regV]; try (first | omega | (intros; simp [*]))
      · skip
        refine cf_see 24 (.bool false) (see_bool (by kernel_rfl) hc3) ?_
        refine cf_go 4 ?_
        rcases Bool.eq_false_or_eq_true ((decide ((ra : Int) ≥ 16))) with hc4 | hc4
        · skip
          refine cf_see 28 (.bool true) (see_bool (by kernel_rfl) hc4) ?_
          refine cf_go 25 ?_
          refine cf_end (.bool false) _ (by kernel_rfl) (by kernel_rfl) rfl ?_
          congr 1; revert hc1 hc2 hc3 hc4; simp only [rightV, okB, show inT 9 = true from rfl, show rdB 9 = true from rfl, show raB 9 = true from rfl, show rbB 9 = true from rfl, show imB 9 = false from rfl, Bool.true_and, Bool.true_or, Bool.false_or, Bool.and_true, Bool.and_false]; simp [regV]; try (first | omega | (intros; simp [*]))
        · skip
          refine cf_see 28 (.bool false) (see_bool (by kernel_rfl) hc4) ?_
          refine cf_go 48 ?_
          rcases Bool.eq_false_or_eq_true ((decide ((rb : Int) < 0))) with hc5 | hc5
          · skip
            refine cf_see 24 (.bool true) (see_bool (by kernel_rfl) hc5) ?_
            refine cf_go 29 ?_
            refine cf_end (.bool false) _ (by kernel_rfl) (by kernel_rfl) rfl ?_
            congr 1; revert hc1 hc2 hc3 hc4 hc5; simp only [rightV, okB, show inT 9 = true from rfl, show rdB 9 = true from rfl, show raB 9 = true from rfl, show rbB 9 = true from rfl, show imB 9 = false from rfl, Bool.true_and, Bool.true_or, Bool.false_or, Bool.and_true, Bool.and_false]; simp [regV]; try (first | omega | (intros; simp [*]))
          · skip
            refine cf_see 24 (.bool false) (see_bool (by kernel_rfl) hc5) ?_
            refine cf_go 4 ?_
            rcases Bool.eq_false_or_eq_true ((decide ((rb : Int) ≥ 16))) with hc6 | hc6
            · skip
              refine cf_see 28 (.bool true) (see_bool (by kernel_rfl) hc6) ?_
              refine cf_go 25 ?_
              refine cf_end (.bool false) _ (by kernel_rfl) (by kernel_rfl) rfl ?_
              congr 1; revert hc1 hc2 hc3 hc4 hc5 hc6; simp only [rightV, okB, show inT 9 = true from rfl, show rdB 9 = true from rfl, show raB 9 = true from rfl, show rbB 9 = true from rfl, show imB 9 = false from rfl, Bool.true_and, Bool.true_or, Bool.false_or, Bool.and_true, Bool.and_false]; simp [regV]; try (first | omega | (intros; simp [*]))
            · skip
              refine cf_see 28 (.bool false) (see_bool (by kernel_rfl) hc6) ?_
              refine cf_go 53 ?_
              refine cf_end (.bool ((im : Int) == 0)) _ (by kernel_rfl) (by kernel_rfl) rfl ?_
              congr 1; revert hc1 hc2 hc3 hc4 hc5 hc6; simp only [rightV, okB, show inT 9 = true from rfl, show rdB 9 = true from rfl, show raB 9 = true from rfl, show rbB 9 = true from rfl, show imB 9 = false from rfl, Bool.true_and, Bool.true_or, Bool.false_or, Bool.and_true, Bool.and_false]; simp [regV]; try (first | omega | (intros; simp [*]))
theorem f35_10 {rd ra rb im : Int} : ACall Try.prog T5 35 #[.agg #[.int .i64 10, .int .i64 rd, .int .i64 ra, .int .i64 rb, .int .u32 im]] ⟨.lf, 0⟩ fun r _ => r = .bool (rightV 10 rd ra rb im) := by
  refine acall_cf 53 (initTm 0 #[.agg #[.int .i64 10, .int .i64 rd, .int .i64 ra, .int .i64 rb, .int .u32 im]]) rfl f35_fn f35_body rfl rfl ?_
  refine cf_go 10 ?_
  refine cf_ask 8 (.int .i64 7) 28 #[.int .i64 10] (by kernel_rfl) (by kernel_rfl) (by kernel_rfl) ?_
  refine cf_go 44 ?_
  rcases Bool.eq_false_or_eq_true ((decide ((rd : Int) < 0))) with hc1 | hc1
  · skip
    refine cf_see 24 (.bool true) (see_bool (by kernel_rfl) hc1) ?_
    refine cf_go 29 ?_
    refine cf_end (.bool false) _ (by kernel_rfl) (by kernel_rfl) rfl ?_
    congr 1; revert hc1; simp only [rightV, okB, show inT 10 = true from rfl, show rdB 10 = true from rfl, show raB 10 = true from rfl, show rbB 10 = true from rfl, show imB 10 = false from rfl, Bool.true_and, Bool.true_or, Bool.false_or, Bool.and_true, Bool.and_false]; simp [regV]; try (first | omega | (intros; simp [*]))
  · skip
    refine cf_see 24 (.bool false) (see_bool (by kernel_rfl) hc1) ?_
    refine cf_go 4 ?_
    rcases Bool.eq_false_or_eq_true ((decide ((rd : Int) ≥ 16))) with hc2 | hc2
    · skip
      refine cf_see 28 (.bool true) (see_bool (by kernel_rfl) hc2) ?_
      refine cf_go 25 ?_
      refine cf_end (.bool false) _ (by kernel_rfl) (by kernel_rfl) rfl ?_
      congr 1; revert hc1 hc2; simp only [rightV, okB, show inT 10 = true from rfl, show rdB 10 = true from rfl, show raB 10 = true from rfl, show rbB 10 = true from rfl, show imB 10 = false from rfl, Bool.true_and, Bool.true_or, Bool.false_or, Bool.and_true, Bool.and_false]; simp [regV]; try (first | omega | (intros; simp [*]))
    · skip
      refine cf_see 28 (.bool false) (see_bool (by kernel_rfl) hc2) ?_
      refine cf_go 48 ?_
      rcases Bool.eq_false_or_eq_true ((decide ((ra : Int) < 0))) with hc3 | hc3
      · skip
        refine cf_see 24 (.bool true) (see_bool (by kernel_rfl) hc3) ?_
        refine cf_go 29 ?_
        refine cf_end (.bool false) _ (by kernel_rfl) (by kernel_rfl) rfl ?_
        congr 1; revert hc1 hc2 hc3; simp only [rightV, okB, show inT 10 = true from rfl, show rdB 10 = true from rfl, show raB 10 = true from rfl, show rbB 10 = true from rfl, show imB 10 = false from rfl, Bool.true_and, Bool.true_or, Bool.false_or, Bool.and_true, Bool.and_false]; simp [regV]; try (first | omega | (intros; simp [*]))
      · skip
        refine cf_see 24 (.bool false) (see_bool (by kernel_rfl) hc3) ?_
        refine cf_go 4 ?_
        rcases Bool.eq_false_or_eq_true ((decide ((ra : Int) ≥ 16))) with hc4 | hc4
        · skip
          refine cf_see 28 (.bool true) (see_bool (by kernel_rfl) hc4) ?_
          refine cf_go 25 ?_
          refine cf_end (.bool false) _ (by kernel_rfl) (by kernel_rfl) rfl ?_
          congr 1; revert hc1 hc2 hc3 hc4; simp only [rightV, okB, show inT 10 = true from rfl, show rdB 10 = true from rfl, show raB 10 = true from rfl, show rbB 10 = true from rfl, show imB 10 = false from rfl, Bool.true_and, Bool.true_or, Bool.false_or, Bool.and_true, Bool.and_false]; simp [regV]; try (first | omega | (intros; simp [*]))
        · skip
          refine cf_see 28 (.bool false) (see_bool (by kernel_rfl) hc4) ?_
          refine cf_go 48 ?_
          rcases Bool.eq_false_or_eq_true ((decide ((rb : Int) < 0))) with hc5 | hc5
          · skip
            refine cf_see 24 (.bool true) (see_bool (by kernel_rfl) hc5) ?_
            refine cf_go 29 ?_
            refine cf_end (.bool false) _ (by kernel_rfl) (by kernel_rfl) rfl ?_
            congr 1; revert hc1 hc2 hc3 hc4 hc5; simp only [rightV, okB, show inT 10 = true from rfl, show rdB 10 = true from rfl, show raB 10 = true from rfl, show rbB 10 = true from rfl, show imB 10 = false from rfl, Bool.true_and, Bool.true_or, Bool.false_or, Bool.and_true, Bool.and_false]; simp [regV]; try (first | omega | (intros; simp [*]))
          · skip
            refine cf_see 24 (.bool false) (see_bool (by kernel_rfl) hc5) ?_
            refine cf_go 4 ?_
            rcases Bool.eq_false_or_eq_true ((decide ((rb : Int) ≥ 16))) with hc6 | hc6
            · skip
              refine cf_see 28 (.bool true) (see_bool (by kernel_rfl) hc6) ?_
              refine cf_go 25 ?_
              refine cf_end (.bool false) _ (by kernel_rfl) (by kernel_rfl) rfl ?_
              congr 1; revert hc1 hc2 hc3 hc4 hc5 hc6; simp only [rightV, okB, show inT 10 = true from rfl, show rdB 10 = true from rfl, show raB 10 = true from rfl, show rbB 10 = true from rfl, show imB 10 = false from rfl, Bool.true_and, Bool.true_or, Bool.false_or, Bool.and_true, Bool.and_false]; simp [regV]; try (first | omega | (intros; simp [*]))
            · skip
              refine cf_see 28 (.bool false) (see_bool (by kernel_rfl) hc6) ?_
              refine cf_go 53 ?_
              refine cf_end (.bool ((im : Int) == 0)) _ (by kernel_rfl) (by kernel_rfl) rfl ?_
              congr 1; revert hc1 hc2 hc3 hc4 hc5 hc6; simp only [rightV, okB, show inT 10 = true from rfl, show rdB 10 = true from rfl, show raB 10 = true from rfl, show rbB 10 = true from rfl, show imB 10 = false from rfl, Bool.true_and, Bool.true_or, Bool.false_or, Bool.and_true, Bool.and_false]; simp [regV]; try (first | omega | (intros; simp [*]))
theorem f35_11 {rd ra rb im : Int} : ACall Try.prog T5 35 #[.agg #[.int .i64 11, .int .i64 rd, .int .i64 ra, .int .i64 rb, .int .u32 im]] ⟨.lf, 0⟩ fun r _ => r = .bool (rightV 11 rd ra rb im) := by
  refine acall_cf 53 (initTm 0 #[.agg #[.int .i64 11, .int .i64 rd, .int .i64 ra, .int .i64 rb, .int .u32 im]]) rfl f35_fn f35_body rfl rfl ?_
  refine cf_go 10 ?_
  refine cf_ask 8 (.int .i64 7) 28 #[.int .i64 11] (by kernel_rfl) (by kernel_rfl) (by kernel_rfl) ?_
  refine cf_go 44 ?_
  rcases Bool.eq_false_or_eq_true ((decide ((rd : Int) < 0))) with hc1 | hc1
  · skip
    refine cf_see 24 (.bool true) (see_bool (by kernel_rfl) hc1) ?_
    refine cf_go 29 ?_
    refine cf_end (.bool false) _ (by kernel_rfl) (by kernel_rfl) rfl ?_
    congr 1; revert hc1; simp only [rightV, okB, show inT 11 = true from rfl, show rdB 11 = true from rfl, show raB 11 = true from rfl, show rbB 11 = true from rfl, show imB 11 = false from rfl, Bool.true_and, Bool.true_or, Bool.false_or, Bool.and_true, Bool.and_false]; simp [regV]; try (first | omega | (intros; simp [*]))
  · skip
    refine cf_see 24 (.bool false) (see_bool (by kernel_rfl) hc1) ?_
    refine cf_go 4 ?_
    rcases Bool.eq_false_or_eq_true ((decide ((rd : Int) ≥ 16))) with hc2 | hc2
    · skip
      refine cf_see 28 (.bool true) (see_bool (by kernel_rfl) hc2) ?_
      refine cf_go 25 ?_
      refine cf_end (.bool false) _ (by kernel_rfl) (by kernel_rfl) rfl ?_
      congr 1; revert hc1 hc2; simp only [rightV, okB, show inT 11 = true from rfl, show rdB 11 = true from rfl, show raB 11 = true from rfl, show rbB 11 = true from rfl, show imB 11 = false from rfl, Bool.true_and, Bool.true_or, Bool.false_or, Bool.and_true, Bool.and_false]; simp [regV]; try (first | omega | (intros; simp [*]))
    · skip
      refine cf_see 28 (.bool false) (see_bool (by kernel_rfl) hc2) ?_
      refine cf_go 48 ?_
      rcases Bool.eq_false_or_eq_true ((decide ((ra : Int) < 0))) with hc3 | hc3
      · skip
        refine cf_see 24 (.bool true) (see_bool (by kernel_rfl) hc3) ?_
        refine cf_go 29 ?_
        refine cf_end (.bool false) _ (by kernel_rfl) (by kernel_rfl) rfl ?_
        congr 1; revert hc1 hc2 hc3; simp only [rightV, okB, show inT 11 = true from rfl, show rdB 11 = true from rfl, show raB 11 = true from rfl, show rbB 11 = true from rfl, show imB 11 = false from rfl, Bool.true_and, Bool.true_or, Bool.false_or, Bool.and_true, Bool.and_false]; simp [regV]; try (first | omega | (intros; simp [*]))
      · skip
        refine cf_see 24 (.bool false) (see_bool (by kernel_rfl) hc3) ?_
        refine cf_go 4 ?_
        rcases Bool.eq_false_or_eq_true ((decide ((ra : Int) ≥ 16))) with hc4 | hc4
        · skip
          refine cf_see 28 (.bool true) (see_bool (by kernel_rfl) hc4) ?_
          refine cf_go 25 ?_
          refine cf_end (.bool false) _ (by kernel_rfl) (by kernel_rfl) rfl ?_
          congr 1; revert hc1 hc2 hc3 hc4; simp only [rightV, okB, show inT 11 = true from rfl, show rdB 11 = true from rfl, show raB 11 = true from rfl, show rbB 11 = true from rfl, show imB 11 = false from rfl, Bool.true_and, Bool.true_or, Bool.false_or, Bool.and_true, Bool.and_false]; simp [regV]; try (first | omega | (intros; simp [*]))
        · skip
          refine cf_see 28 (.bool false) (see_bool (by kernel_rfl) hc4) ?_
          refine cf_go 48 ?_
          rcases Bool.eq_false_or_eq_true ((decide ((rb : Int) < 0))) with hc5 | hc5
          · skip
            refine cf_see 24 (.bool true) (see_bool (by kernel_rfl) hc5) ?_
            refine cf_go 29 ?_
            refine cf_end (.bool false) _ (by kernel_rfl) (by kernel_rfl) rfl ?_
            congr 1; revert hc1 hc2 hc3 hc4 hc5; simp only [rightV, okB, show inT 11 = true from rfl, show rdB 11 = true from rfl, show raB 11 = true from rfl, show rbB 11 = true from rfl, show imB 11 = false from rfl, Bool.true_and, Bool.true_or, Bool.false_or, Bool.and_true, Bool.and_false]; simp [regV]; try (first | omega | (intros; simp [*]))
          · skip
            refine cf_see 24 (.bool false) (see_bool (by kernel_rfl) hc5) ?_
            refine cf_go 4 ?_
            rcases Bool.eq_false_or_eq_true ((decide ((rb : Int) ≥ 16))) with hc6 | hc6
            · skip
              refine cf_see 28 (.bool true) (see_bool (by kernel_rfl) hc6) ?_
              refine cf_go 25 ?_
              refine cf_end (.bool false) _ (by kernel_rfl) (by kernel_rfl) rfl ?_
              congr 1; revert hc1 hc2 hc3 hc4 hc5 hc6; simp only [rightV, okB, show inT 11 = true from rfl, show rdB 11 = true from rfl, show raB 11 = true from rfl, show rbB 11 = true from rfl, show imB 11 = false from rfl, Bool.true_and, Bool.true_or, Bool.false_or, Bool.and_true, Bool.and_false]; simp [regV]; try (first | omega | (intros; simp [*]))
            · skip
              refine cf_see 28 (.bool false) (see_bool (by kernel_rfl) hc6) ?_
              refine cf_go 53 ?_
              refine cf_end (.bool ((im : Int) == 0)) _ (by kernel_rfl) (by kernel_rfl) rfl ?_
              congr 1; revert hc1 hc2 hc3 hc4 hc5 hc6; simp only [rightV, okB, show inT 11 = true from rfl, show rdB 11 = true from rfl, show raB 11 = true from rfl, show rbB 11 = true from rfl, show imB 11 = false from rfl, Bool.true_and, Bool.true_or, Bool.false_or, Bool.and_true, Bool.and_false]; simp [regV]; try (first | omega | (intros; simp [*]))
theorem f35_12 {rd ra rb im : Int} : ACall Try.prog T5 35 #[.agg #[.int .i64 12, .int .i64 rd, .int .i64 ra, .int .i64 rb, .int .u32 im]] ⟨.lf, 0⟩ fun r _ => r = .bool (rightV 12 rd ra rb im) := by
  refine acall_cf 53 (initTm 0 #[.agg #[.int .i64 12, .int .i64 rd, .int .i64 ra, .int .i64 rb, .int .u32 im]]) rfl f35_fn f35_body rfl rfl ?_
  refine cf_go 10 ?_
  refine cf_ask 8 (.int .i64 7) 28 #[.int .i64 12] (by kernel_rfl) (by kernel_rfl) (by kernel_rfl) ?_
  refine cf_go 44 ?_
  rcases Bool.eq_false_or_eq_true ((decide ((rd : Int) < 0))) with hc1 | hc1
  · skip
    refine cf_see 24 (.bool true) (see_bool (by kernel_rfl) hc1) ?_
    refine cf_go 29 ?_
    refine cf_end (.bool false) _ (by kernel_rfl) (by kernel_rfl) rfl ?_
    congr 1; revert hc1; simp only [rightV, okB, show inT 12 = true from rfl, show rdB 12 = true from rfl, show raB 12 = true from rfl, show rbB 12 = true from rfl, show imB 12 = false from rfl, Bool.true_and, Bool.true_or, Bool.false_or, Bool.and_true, Bool.and_false]; simp [regV]; try (first | omega | (intros; simp [*]))
  · skip
    refine cf_see 24 (.bool false) (see_bool (by kernel_rfl) hc1) ?_
    refine cf_go 4 ?_
    rcases Bool.eq_false_or_eq_true ((decide ((rd : Int) ≥ 16))) with hc2 | hc2
    · skip
      refine cf_see 28 (.bool true) (see_bool (by kernel_rfl) hc2) ?_
      refine cf_go 25 ?_
      refine cf_end (.bool false) _ (by kernel_rfl) (by kernel_rfl) rfl ?_
      congr 1; revert hc1 hc2; simp only [rightV, okB, show inT 12 = true from rfl, show rdB 12 = true from rfl, show raB 12 = true from rfl, show rbB 12 = true from rfl, show imB 12 = false from rfl, Bool.true_and, Bool.true_or, Bool.false_or, Bool.and_true, Bool.and_false]; simp [regV]; try (first | omega | (intros; simp [*]))
    · skip
      refine cf_see 28 (.bool false) (see_bool (by kernel_rfl) hc2) ?_
      refine cf_go 48 ?_
      rcases Bool.eq_false_or_eq_true ((decide ((ra : Int) < 0))) with hc3 | hc3
      · skip
        refine cf_see 24 (.bool true) (see_bool (by kernel_rfl) hc3) ?_
        refine cf_go 29 ?_
        refine cf_end (.bool false) _ (by kernel_rfl) (by kernel_rfl) rfl ?_
        congr 1; revert hc1 hc2 hc3; simp only [rightV, okB, show inT 12 = true from rfl, show rdB 12 = true from rfl, show raB 12 = true from rfl, show rbB 12 = true from rfl, show imB 12 = false from rfl, Bool.true_and, Bool.true_or, Bool.false_or, Bool.and_true, Bool.and_false]; simp [regV]; try (first | omega | (intros; simp [*]))
      · skip
        refine cf_see 24 (.bool false) (see_bool (by kernel_rfl) hc3) ?_
        refine cf_go 4 ?_
        rcases Bool.eq_false_or_eq_true ((decide ((ra : Int) ≥ 16))) with hc4 | hc4
        · skip
          refine cf_see 28 (.bool true) (see_bool (by kernel_rfl) hc4) ?_
          refine cf_go 25 ?_
          refine cf_end (.bool false) _ (by kernel_rfl) (by kernel_rfl) rfl ?_
          congr 1; revert hc1 hc2 hc3 hc4; simp only [rightV, okB, show inT 12 = true from rfl, show rdB 12 = true from rfl, show raB 12 = true from rfl, show rbB 12 = true from rfl, show imB 12 = false from rfl, Bool.true_and, Bool.true_or, Bool.false_or, Bool.and_true, Bool.and_false]; simp [regV]; try (first | omega | (intros; simp [*]))
        · skip
          refine cf_see 28 (.bool false) (see_bool (by kernel_rfl) hc4) ?_
          refine cf_go 48 ?_
          rcases Bool.eq_false_or_eq_true ((decide ((rb : Int) < 0))) with hc5 | hc5
          · skip
            refine cf_see 24 (.bool true) (see_bool (by kernel_rfl) hc5) ?_
            refine cf_go 29 ?_
            refine cf_end (.bool false) _ (by kernel_rfl) (by kernel_rfl) rfl ?_
            congr 1; revert hc1 hc2 hc3 hc4 hc5; simp only [rightV, okB, show inT 12 = true from rfl, show rdB 12 = true from rfl, show raB 12 = true from rfl, show rbB 12 = true from rfl, show imB 12 = false from rfl, Bool.true_and, Bool.true_or, Bool.false_or, Bool.and_true, Bool.and_false]; simp [regV]; try (first | omega | (intros; simp [*]))
          · skip
            refine cf_see 24 (.bool false) (see_bool (by kernel_rfl) hc5) ?_
            refine cf_go 4 ?_
            rcases Bool.eq_false_or_eq_true ((decide ((rb : Int) ≥ 16))) with hc6 | hc6
            · skip
              refine cf_see 28 (.bool true) (see_bool (by kernel_rfl) hc6) ?_
              refine cf_go 25 ?_
              refine cf_end (.bool false) _ (by kernel_rfl) (by kernel_rfl) rfl ?_
              congr 1; revert hc1 hc2 hc3 hc4 hc5 hc6; simp only [rightV, okB, show inT 12 = true from rfl, show rdB 12 = true from rfl, show raB 12 = true from rfl, show rbB 12 = true from rfl, show imB 12 = false from rfl, Bool.true_and, Bool.true_or, Bool.false_or, Bool.and_true, Bool.and_false]; simp [regV]; try (first | omega | (intros; simp [*]))
            · skip
              refine cf_see 28 (.bool false) (see_bool (by kernel_rfl) hc6) ?_
              refine cf_go 53 ?_
              refine cf_end (.bool ((im : Int) == 0)) _ (by kernel_rfl) (by kernel_rfl) rfl ?_
              congr 1; revert hc1 hc2 hc3 hc4 hc5 hc6; simp only [rightV, okB, show inT 12 = true from rfl, show rdB 12 = true from rfl, show raB 12 = true from rfl, show rbB 12 = true from rfl, show imB 12 = false from rfl, Bool.true_and, Bool.true_or, Bool.false_or, Bool.and_true, Bool.and_false]; simp [regV]; try (first | omega | (intros; simp [*]))
theorem f35_13 {rd ra rb im : Int} : ACall Try.prog T5 35 #[.agg #[.int .i64 13, .int .i64 rd, .int .i64 ra, .int .i64 rb, .int .u32 im]] ⟨.lf, 0⟩ fun r _ => r = .bool (rightV 13 rd ra rb im) := by
  refine acall_cf 53 (initTm 0 #[.agg #[.int .i64 13, .int .i64 rd, .int .i64 ra, .int .i64 rb, .int .u32 im]]) rfl f35_fn f35_body rfl rfl ?_
  refine cf_go 10 ?_
  refine cf_ask 8 (.int .i64 7) 28 #[.int .i64 13] (by kernel_rfl) (by kernel_rfl) (by kernel_rfl) ?_
  refine cf_go 44 ?_
  rcases Bool.eq_false_or_eq_true ((decide ((rd : Int) < 0))) with hc1 | hc1
  · skip
    refine cf_see 24 (.bool true) (see_bool (by kernel_rfl) hc1) ?_
    refine cf_go 29 ?_
    refine cf_end (.bool false) _ (by kernel_rfl) (by kernel_rfl) rfl ?_
    congr 1; revert hc1; simp only [rightV, okB, show inT 13 = true from rfl, show rdB 13 = true from rfl, show raB 13 = true from rfl, show rbB 13 = true from rfl, show imB 13 = false from rfl, Bool.true_and, Bool.true_or, Bool.false_or, Bool.and_true, Bool.and_false]; simp [regV]; try (first | omega | (intros; simp [*]))
  · skip
    refine cf_see 24 (.bool false) (see_bool (by kernel_rfl) hc1) ?_
    refine cf_go 4 ?_
    rcases Bool.eq_false_or_eq_true ((decide ((rd : Int) ≥ 16))) with hc2 | hc2
    · skip
      refine cf_see 28 (.bool true) (see_bool (by kernel_rfl) hc2) ?_
      refine cf_go 25 ?_
      refine cf_end (.bool false) _ (by kernel_rfl) (by kernel_rfl) rfl ?_
      congr 1; revert hc1 hc2; simp only [rightV, okB, show inT 13 = true from rfl, show rdB 13 = true from rfl, show raB 13 = true from rfl, show rbB 13 = true from rfl, show imB 13 = false from rfl, Bool.true_and, Bool.true_or, Bool.false_or, Bool.and_true, Bool.and_false]; simp [regV]; try (first | omega | (intros; simp [*]))
    · skip
      refine cf_see 28 (.bool false) (see_bool (by kernel_rfl) hc2) ?_
      refine cf_go 48 ?_
      rcases Bool.eq_false_or_eq_true ((decide ((ra : Int) < 0))) with hc3 | hc3
      · skip
        refine cf_see 24 (.bool true) (see_bool (by kernel_rfl) hc3) ?_
        refine cf_go 29 ?_
        refine cf_end (.bool false) _ (by kernel_rfl) (by kernel_rfl) rfl ?_
        congr 1; revert hc1 hc2 hc3; simp only [rightV, okB, show inT 13 = true from rfl, show rdB 13 = true from rfl, show raB 13 = true from rfl, show rbB 13 = true from rfl, show imB 13 = false from rfl, Bool.true_and, Bool.true_or, Bool.false_or, Bool.and_true, Bool.and_false]; simp [regV]; try (first | omega | (intros; simp [*]))
      · skip
        refine cf_see 24 (.bool false) (see_bool (by kernel_rfl) hc3) ?_
        refine cf_go 4 ?_
        rcases Bool.eq_false_or_eq_true ((decide ((ra : Int) ≥ 16))) with hc4 | hc4
        · skip
          refine cf_see 28 (.bool true) (see_bool (by kernel_rfl) hc4) ?_
          refine cf_go 25 ?_
          refine cf_end (.bool false) _ (by kernel_rfl) (by kernel_rfl) rfl ?_
          congr 1; revert hc1 hc2 hc3 hc4; simp only [rightV, okB, show inT 13 = true from rfl, show rdB 13 = true from rfl, show raB 13 = true from rfl, show rbB 13 = true from rfl, show imB 13 = false from rfl, Bool.true_and, Bool.true_or, Bool.false_or, Bool.and_true, Bool.and_false]; simp [regV]; try (first | omega | (intros; simp [*]))
        · skip
          refine cf_see 28 (.bool false) (see_bool (by kernel_rfl) hc4) ?_
          refine cf_go 48 ?_
          rcases Bool.eq_false_or_eq_true ((decide ((rb : Int) < 0))) with hc5 | hc5
          · skip
            refine cf_see 24 (.bool true) (see_bool (by kernel_rfl) hc5) ?_
            refine cf_go 29 ?_
            refine cf_end (.bool false) _ (by kernel_rfl) (by kernel_rfl) rfl ?_
            congr 1; revert hc1 hc2 hc3 hc4 hc5; simp only [rightV, okB, show inT 13 = true from rfl, show rdB 13 = true from rfl, show raB 13 = true from rfl, show rbB 13 = true from rfl, show imB 13 = false from rfl, Bool.true_and, Bool.true_or, Bool.false_or, Bool.and_true, Bool.and_false]; simp [regV]; try (first | omega | (intros; simp [*]))
          · skip
            refine cf_see 24 (.bool false) (see_bool (by kernel_rfl) hc5) ?_
            refine cf_go 4 ?_
            rcases Bool.eq_false_or_eq_true ((decide ((rb : Int) ≥ 16))) with hc6 | hc6
            · skip
              refine cf_see 28 (.bool true) (see_bool (by kernel_rfl) hc6) ?_
              refine cf_go 25 ?_
              refine cf_end (.bool false) _ (by kernel_rfl) (by kernel_rfl) rfl ?_
              congr 1; revert hc1 hc2 hc3 hc4 hc5 hc6; simp only [rightV, okB, show inT 13 = true from rfl, show rdB 13 = true from rfl, show raB 13 = true from rfl, show rbB 13 = true from rfl, show imB 13 = false from rfl, Bool.true_and, Bool.true_or, Bool.false_or, Bool.and_true, Bool.and_false]; simp [regV]; try (first | omega | (intros; simp [*]))
            · skip
              refine cf_see 28 (.bool false) (see_bool (by kernel_rfl) hc6) ?_
              refine cf_go 53 ?_
              refine cf_end (.bool ((im : Int) == 0)) _ (by kernel_rfl) (by kernel_rfl) rfl ?_
              congr 1; revert hc1 hc2 hc3 hc4 hc5 hc6; simp only [rightV, okB, show inT 13 = true from rfl, show rdB 13 = true from rfl, show raB 13 = true from rfl, show rbB 13 = true from rfl, show imB 13 = false from rfl, Bool.true_and, Bool.true_or, Bool.false_or, Bool.and_true, Bool.and_false]; simp [regV]; try (first | omega | (intros; simp [*]))
theorem f35_14 {rd ra rb im : Int} : ACall Try.prog T5 35 #[.agg #[.int .i64 14, .int .i64 rd, .int .i64 ra, .int .i64 rb, .int .u32 im]] ⟨.lf, 0⟩ fun r _ => r = .bool (rightV 14 rd ra rb im) := by
  refine acall_cf 53 (initTm 0 #[.agg #[.int .i64 14, .int .i64 rd, .int .i64 ra, .int .i64 rb, .int .u32 im]]) rfl f35_fn f35_body rfl rfl ?_
  refine cf_go 10 ?_
  refine cf_ask 8 (.int .i64 11) 28 #[.int .i64 14] (by kernel_rfl) (by kernel_rfl) (by kernel_rfl) ?_
  refine cf_go 44 ?_
  rcases Bool.eq_false_or_eq_true ((decide ((rd : Int) < 0))) with hc1 | hc1
  · skip
    refine cf_see 24 (.bool true) (see_bool (by kernel_rfl) hc1) ?_
    refine cf_go 29 ?_
    refine cf_end (.bool false) _ (by kernel_rfl) (by kernel_rfl) rfl ?_
    congr 1; revert hc1; simp only [rightV, okB, show inT 14 = true from rfl, show rdB 14 = true from rfl, show raB 14 = true from rfl, show rbB 14 = false from rfl, show imB 14 = true from rfl, Bool.true_and, Bool.true_or, Bool.false_or, Bool.and_true, Bool.and_false]; simp [regV]; try (first | omega | (intros; simp [*]))
  · skip
    refine cf_see 24 (.bool false) (see_bool (by kernel_rfl) hc1) ?_
    refine cf_go 4 ?_
    rcases Bool.eq_false_or_eq_true ((decide ((rd : Int) ≥ 16))) with hc2 | hc2
    · skip
      refine cf_see 28 (.bool true) (see_bool (by kernel_rfl) hc2) ?_
      refine cf_go 25 ?_
      refine cf_end (.bool false) _ (by kernel_rfl) (by kernel_rfl) rfl ?_
      congr 1; revert hc1 hc2; simp only [rightV, okB, show inT 14 = true from rfl, show rdB 14 = true from rfl, show raB 14 = true from rfl, show rbB 14 = false from rfl, show imB 14 = true from rfl, Bool.true_and, Bool.true_or, Bool.false_or, Bool.and_true, Bool.and_false]; simp [regV]; try (first | omega | (intros; simp [*]))
    · skip
      refine cf_see 28 (.bool false) (see_bool (by kernel_rfl) hc2) ?_
      refine cf_go 48 ?_
      rcases Bool.eq_false_or_eq_true ((decide ((ra : Int) < 0))) with hc3 | hc3
      · skip
        refine cf_see 24 (.bool true) (see_bool (by kernel_rfl) hc3) ?_
        refine cf_go 29 ?_
        refine cf_end (.bool false) _ (by kernel_rfl) (by kernel_rfl) rfl ?_
        congr 1; revert hc1 hc2 hc3; simp only [rightV, okB, show inT 14 = true from rfl, show rdB 14 = true from rfl, show raB 14 = true from rfl, show rbB 14 = false from rfl, show imB 14 = true from rfl, Bool.true_and, Bool.true_or, Bool.false_or, Bool.and_true, Bool.and_false]; simp [regV]; try (first | omega | (intros; simp [*]))
      · skip
        refine cf_see 24 (.bool false) (see_bool (by kernel_rfl) hc3) ?_
        refine cf_go 4 ?_
        rcases Bool.eq_false_or_eq_true ((decide ((ra : Int) ≥ 16))) with hc4 | hc4
        · skip
          refine cf_see 28 (.bool true) (see_bool (by kernel_rfl) hc4) ?_
          refine cf_go 25 ?_
          refine cf_end (.bool false) _ (by kernel_rfl) (by kernel_rfl) rfl ?_
          congr 1; revert hc1 hc2 hc3 hc4; simp only [rightV, okB, show inT 14 = true from rfl, show rdB 14 = true from rfl, show raB 14 = true from rfl, show rbB 14 = false from rfl, show imB 14 = true from rfl, Bool.true_and, Bool.true_or, Bool.false_or, Bool.and_true, Bool.and_false]; simp [regV]; try (first | omega | (intros; simp [*]))
        · skip
          refine cf_see 28 (.bool false) (see_bool (by kernel_rfl) hc4) ?_
          refine cf_go 48 ?_
          rcases Bool.eq_false_or_eq_true ((decide ((rb : Int) < 0))) with hc5 | hc5
          · skip
            refine cf_see 24 (.bool true) (see_bool (by kernel_rfl) hc5) ?_
            refine cf_go 29 ?_
            refine cf_end (.bool false) _ (by kernel_rfl) (by kernel_rfl) rfl ?_
            congr 1; revert hc1 hc2 hc3 hc4 hc5; simp only [rightV, okB, show inT 14 = true from rfl, show rdB 14 = true from rfl, show raB 14 = true from rfl, show rbB 14 = false from rfl, show imB 14 = true from rfl, Bool.true_and, Bool.true_or, Bool.false_or, Bool.and_true, Bool.and_false]; simp [regV]; try (first | omega | (intros; simp [*]))
          · skip
            refine cf_see 24 (.bool false) (see_bool (by kernel_rfl) hc5) ?_
            refine cf_go 4 ?_
            rcases Bool.eq_false_or_eq_true ((decide ((rb : Int) ≥ 16))) with hc6 | hc6
            · skip
              refine cf_see 28 (.bool true) (see_bool (by kernel_rfl) hc6) ?_
              refine cf_go 25 ?_
              refine cf_end (.bool false) _ (by kernel_rfl) (by kernel_rfl) rfl ?_
              congr 1; revert hc1 hc2 hc3 hc4 hc5 hc6; simp only [rightV, okB, show inT 14 = true from rfl, show rdB 14 = true from rfl, show raB 14 = true from rfl, show rbB 14 = false from rfl, show imB 14 = true from rfl, Bool.true_and, Bool.true_or, Bool.false_or, Bool.and_true, Bool.and_false]; simp [regV]; try (first | omega | (intros; simp [*]))
            · skip
              refine cf_see 28 (.bool false) (see_bool (by kernel_rfl) hc6) ?_
              refine cf_go 13 ?_
              rcases Bool.eq_false_or_eq_true (((rb : Int) != 0)) with hc7 | hc7
              · skip
                refine cf_see 39 (.bool true) (see_bool (by kernel_rfl) hc7) ?_
                refine cf_go 12 ?_
                refine cf_end (.bool false) _ (by kernel_rfl) (by kernel_rfl) rfl ?_
                congr 1; revert hc1 hc2 hc3 hc4 hc5 hc6 hc7; simp only [rightV, okB, show inT 14 = true from rfl, show rdB 14 = true from rfl, show raB 14 = true from rfl, show rbB 14 = false from rfl, show imB 14 = true from rfl, Bool.true_and, Bool.true_or, Bool.false_or, Bool.and_true, Bool.and_false]; simp [regV]; try (first | omega | (intros; simp [*]))
              · skip
                refine cf_see 39 (.bool false) (see_bool (by kernel_rfl) hc7) ?_
                refine cf_go 40 ?_
                refine cf_end (.bool true) _ (by kernel_rfl) (by kernel_rfl) rfl ?_
                congr 1; revert hc1 hc2 hc3 hc4 hc5 hc6 hc7; simp only [rightV, okB, show inT 14 = true from rfl, show rdB 14 = true from rfl, show raB 14 = true from rfl, show rbB 14 = false from rfl, show imB 14 = true from rfl, Bool.true_and, Bool.true_or, Bool.false_or, Bool.and_true, Bool.and_false]; simp [regV]; try (first | omega | (intros; simp [*]))
theorem f35_15 {rd ra rb im : Int} : ACall Try.prog T5 35 #[.agg #[.int .i64 15, .int .i64 rd, .int .i64 ra, .int .i64 rb, .int .u32 im]] ⟨.lf, 0⟩ fun r _ => r = .bool (rightV 15 rd ra rb im) := by
  refine acall_cf 53 (initTm 0 #[.agg #[.int .i64 15, .int .i64 rd, .int .i64 ra, .int .i64 rb, .int .u32 im]]) rfl f35_fn f35_body rfl rfl ?_
  refine cf_go 10 ?_
  refine cf_ask 8 (.int .i64 14) 28 #[.int .i64 15] (by kernel_rfl) (by kernel_rfl) (by kernel_rfl) ?_
  refine cf_go 44 ?_
  rcases Bool.eq_false_or_eq_true ((decide ((rd : Int) < 0))) with hc1 | hc1
  · skip
    refine cf_see 24 (.bool true) (see_bool (by kernel_rfl) hc1) ?_
    refine cf_go 29 ?_
    refine cf_end (.bool false) _ (by kernel_rfl) (by kernel_rfl) rfl ?_
    congr 1; revert hc1; simp only [rightV, okB, show inT 15 = true from rfl, show rdB 15 = false from rfl, show raB 15 = true from rfl, show rbB 15 = true from rfl, show imB 15 = true from rfl, Bool.true_and, Bool.true_or, Bool.false_or, Bool.and_true, Bool.and_false]; simp [regV]; try (first | omega | (intros; simp [*]))
  · skip
    refine cf_see 24 (.bool false) (see_bool (by kernel_rfl) hc1) ?_
    refine cf_go 4 ?_
    rcases Bool.eq_false_or_eq_true ((decide ((rd : Int) ≥ 16))) with hc2 | hc2
    · skip
      refine cf_see 28 (.bool true) (see_bool (by kernel_rfl) hc2) ?_
      refine cf_go 25 ?_
      refine cf_end (.bool false) _ (by kernel_rfl) (by kernel_rfl) rfl ?_
      congr 1; revert hc1 hc2; simp only [rightV, okB, show inT 15 = true from rfl, show rdB 15 = false from rfl, show raB 15 = true from rfl, show rbB 15 = true from rfl, show imB 15 = true from rfl, Bool.true_and, Bool.true_or, Bool.false_or, Bool.and_true, Bool.and_false]; simp [regV]; try (first | omega | (intros; simp [*]))
    · skip
      refine cf_see 28 (.bool false) (see_bool (by kernel_rfl) hc2) ?_
      refine cf_go 13 ?_
      rcases Bool.eq_false_or_eq_true (((rd : Int) != 0)) with hc3 | hc3
      · skip
        refine cf_see 39 (.bool true) (see_bool (by kernel_rfl) hc3) ?_
        refine cf_go 12 ?_
        refine cf_end (.bool false) _ (by kernel_rfl) (by kernel_rfl) rfl ?_
        congr 1; revert hc1 hc2 hc3; simp only [rightV, okB, show inT 15 = true from rfl, show rdB 15 = false from rfl, show raB 15 = true from rfl, show rbB 15 = true from rfl, show imB 15 = true from rfl, Bool.true_and, Bool.true_or, Bool.false_or, Bool.and_true, Bool.and_false]; simp [regV]; try (first | omega | (intros; simp [*]))
      · skip
        refine cf_see 39 (.bool false) (see_bool (by kernel_rfl) hc3) ?_
        refine cf_go 35 ?_
        rcases Bool.eq_false_or_eq_true ((decide ((ra : Int) < 0))) with hc4 | hc4
        · skip
          refine cf_see 24 (.bool true) (see_bool (by kernel_rfl) hc4) ?_
          refine cf_go 29 ?_
          refine cf_end (.bool false) _ (by kernel_rfl) (by kernel_rfl) rfl ?_
          congr 1; revert hc1 hc2 hc3 hc4; simp only [rightV, okB, show inT 15 = true from rfl, show rdB 15 = false from rfl, show raB 15 = true from rfl, show rbB 15 = true from rfl, show imB 15 = true from rfl, Bool.true_and, Bool.true_or, Bool.false_or, Bool.and_true, Bool.and_false]; simp [regV]; try (first | omega | (intros; simp [*]))
        · skip
          refine cf_see 24 (.bool false) (see_bool (by kernel_rfl) hc4) ?_
          refine cf_go 4 ?_
          rcases Bool.eq_false_or_eq_true ((decide ((ra : Int) ≥ 16))) with hc5 | hc5
          · skip
            refine cf_see 28 (.bool true) (see_bool (by kernel_rfl) hc5) ?_
            refine cf_go 25 ?_
            refine cf_end (.bool false) _ (by kernel_rfl) (by kernel_rfl) rfl ?_
            congr 1; revert hc1 hc2 hc3 hc4 hc5; simp only [rightV, okB, show inT 15 = true from rfl, show rdB 15 = false from rfl, show raB 15 = true from rfl, show rbB 15 = true from rfl, show imB 15 = true from rfl, Bool.true_and, Bool.true_or, Bool.false_or, Bool.and_true, Bool.and_false]; simp [regV]; try (first | omega | (intros; simp [*]))
          · skip
            refine cf_see 28 (.bool false) (see_bool (by kernel_rfl) hc5) ?_
            refine cf_go 48 ?_
            rcases Bool.eq_false_or_eq_true ((decide ((rb : Int) < 0))) with hc6 | hc6
            · skip
              refine cf_see 24 (.bool true) (see_bool (by kernel_rfl) hc6) ?_
              refine cf_go 29 ?_
              refine cf_end (.bool false) _ (by kernel_rfl) (by kernel_rfl) rfl ?_
              congr 1; revert hc1 hc2 hc3 hc4 hc5 hc6; simp only [rightV, okB, show inT 15 = true from rfl, show rdB 15 = false from rfl, show raB 15 = true from rfl, show rbB 15 = true from rfl, show imB 15 = true from rfl, Bool.true_and, Bool.true_or, Bool.false_or, Bool.and_true, Bool.and_false]; simp [regV]; try (first | omega | (intros; simp [*]))
            · skip
              refine cf_see 24 (.bool false) (see_bool (by kernel_rfl) hc6) ?_
              refine cf_go 4 ?_
              rcases Bool.eq_false_or_eq_true ((decide ((rb : Int) ≥ 16))) with hc7 | hc7
              · skip
                refine cf_see 28 (.bool true) (see_bool (by kernel_rfl) hc7) ?_
                refine cf_go 25 ?_
                refine cf_end (.bool false) _ (by kernel_rfl) (by kernel_rfl) rfl ?_
                congr 1; revert hc1 hc2 hc3 hc4 hc5 hc6 hc7; simp only [rightV, okB, show inT 15 = true from rfl, show rdB 15 = false from rfl, show raB 15 = true from rfl, show rbB 15 = true from rfl, show imB 15 = true from rfl, Bool.true_and, Bool.true_or, Bool.false_or, Bool.and_true, Bool.and_false]; simp [regV]; try (first | omega | (intros; simp [*]))
              · skip
                refine cf_see 28 (.bool false) (see_bool (by kernel_rfl) hc7) ?_
                refine cf_go 53 ?_
                refine cf_end (.bool true) _ (by kernel_rfl) (by kernel_rfl) rfl ?_
                congr 1; revert hc1 hc2 hc3 hc4 hc5 hc6 hc7; simp only [rightV, okB, show inT 15 = true from rfl, show rdB 15 = false from rfl, show raB 15 = true from rfl, show rbB 15 = true from rfl, show imB 15 = true from rfl, Bool.true_and, Bool.true_or, Bool.false_or, Bool.and_true, Bool.and_false]; simp [regV]; try (first | omega | (intros; simp [*]))
theorem f35_16 {rd ra rb im : Int} : ACall Try.prog T5 35 #[.agg #[.int .i64 16, .int .i64 rd, .int .i64 ra, .int .i64 rb, .int .u32 im]] ⟨.lf, 0⟩ fun r _ => r = .bool (rightV 16 rd ra rb im) := by
  refine acall_cf 53 (initTm 0 #[.agg #[.int .i64 16, .int .i64 rd, .int .i64 ra, .int .i64 rb, .int .u32 im]]) rfl f35_fn f35_body rfl rfl ?_
  refine cf_go 10 ?_
  refine cf_ask 8 (.int .i64 10) 28 #[.int .i64 16] (by kernel_rfl) (by kernel_rfl) (by kernel_rfl) ?_
  refine cf_go 44 ?_
  rcases Bool.eq_false_or_eq_true ((decide ((rd : Int) < 0))) with hc1 | hc1
  · skip
    refine cf_see 24 (.bool true) (see_bool (by kernel_rfl) hc1) ?_
    refine cf_go 29 ?_
    refine cf_end (.bool false) _ (by kernel_rfl) (by kernel_rfl) rfl ?_
    congr 1; revert hc1; simp only [rightV, okB, show inT 16 = true from rfl, show rdB 16 = false from rfl, show raB 16 = true from rfl, show rbB 16 = false from rfl, show imB 16 = true from rfl, Bool.true_and, Bool.true_or, Bool.false_or, Bool.and_true, Bool.and_false]; simp [regV]; try (first | omega | (intros; simp [*]))
  · skip
    refine cf_see 24 (.bool false) (see_bool (by kernel_rfl) hc1) ?_
    refine cf_go 4 ?_
    rcases Bool.eq_false_or_eq_true ((decide ((rd : Int) ≥ 16))) with hc2 | hc2
    · skip
      refine cf_see 28 (.bool true) (see_bool (by kernel_rfl) hc2) ?_
      refine cf_go 25 ?_
      refine cf_end (.bool false) _ (by kernel_rfl) (by kernel_rfl) rfl ?_
      congr 1; revert hc1 hc2; simp only [rightV, okB, show inT 16 = true from rfl, show rdB 16 = false from rfl, show raB 16 = true from rfl, show rbB 16 = false from rfl, show imB 16 = true from rfl, Bool.true_and, Bool.true_or, Bool.false_or, Bool.and_true, Bool.and_false]; simp [regV]; try (first | omega | (intros; simp [*]))
    · skip
      refine cf_see 28 (.bool false) (see_bool (by kernel_rfl) hc2) ?_
      refine cf_go 13 ?_
      rcases Bool.eq_false_or_eq_true (((rd : Int) != 0)) with hc3 | hc3
      · skip
        refine cf_see 39 (.bool true) (see_bool (by kernel_rfl) hc3) ?_
        refine cf_go 12 ?_
        refine cf_end (.bool false) _ (by kernel_rfl) (by kernel_rfl) rfl ?_
        congr 1; revert hc1 hc2 hc3; simp only [rightV, okB, show inT 16 = true from rfl, show rdB 16 = false from rfl, show raB 16 = true from rfl, show rbB 16 = false from rfl, show imB 16 = true from rfl, Bool.true_and, Bool.true_or, Bool.false_or, Bool.and_true, Bool.and_false]; simp [regV]; try (first | omega | (intros; simp [*]))
      · skip
        refine cf_see 39 (.bool false) (see_bool (by kernel_rfl) hc3) ?_
        refine cf_go 35 ?_
        rcases Bool.eq_false_or_eq_true ((decide ((ra : Int) < 0))) with hc4 | hc4
        · skip
          refine cf_see 24 (.bool true) (see_bool (by kernel_rfl) hc4) ?_
          refine cf_go 29 ?_
          refine cf_end (.bool false) _ (by kernel_rfl) (by kernel_rfl) rfl ?_
          congr 1; revert hc1 hc2 hc3 hc4; simp only [rightV, okB, show inT 16 = true from rfl, show rdB 16 = false from rfl, show raB 16 = true from rfl, show rbB 16 = false from rfl, show imB 16 = true from rfl, Bool.true_and, Bool.true_or, Bool.false_or, Bool.and_true, Bool.and_false]; simp [regV]; try (first | omega | (intros; simp [*]))
        · skip
          refine cf_see 24 (.bool false) (see_bool (by kernel_rfl) hc4) ?_
          refine cf_go 4 ?_
          rcases Bool.eq_false_or_eq_true ((decide ((ra : Int) ≥ 16))) with hc5 | hc5
          · skip
            refine cf_see 28 (.bool true) (see_bool (by kernel_rfl) hc5) ?_
            refine cf_go 25 ?_
            refine cf_end (.bool false) _ (by kernel_rfl) (by kernel_rfl) rfl ?_
            congr 1; revert hc1 hc2 hc3 hc4 hc5; simp only [rightV, okB, show inT 16 = true from rfl, show rdB 16 = false from rfl, show raB 16 = true from rfl, show rbB 16 = false from rfl, show imB 16 = true from rfl, Bool.true_and, Bool.true_or, Bool.false_or, Bool.and_true, Bool.and_false]; simp [regV]; try (first | omega | (intros; simp [*]))
          · skip
            refine cf_see 28 (.bool false) (see_bool (by kernel_rfl) hc5) ?_
            refine cf_go 48 ?_
            rcases Bool.eq_false_or_eq_true ((decide ((rb : Int) < 0))) with hc6 | hc6
            · skip
              refine cf_see 24 (.bool true) (see_bool (by kernel_rfl) hc6) ?_
              refine cf_go 29 ?_
              refine cf_end (.bool false) _ (by kernel_rfl) (by kernel_rfl) rfl ?_
              congr 1; revert hc1 hc2 hc3 hc4 hc5 hc6; simp only [rightV, okB, show inT 16 = true from rfl, show rdB 16 = false from rfl, show raB 16 = true from rfl, show rbB 16 = false from rfl, show imB 16 = true from rfl, Bool.true_and, Bool.true_or, Bool.false_or, Bool.and_true, Bool.and_false]; simp [regV]; try (first | omega | (intros; simp [*]))
            · skip
              refine cf_see 24 (.bool false) (see_bool (by kernel_rfl) hc6) ?_
              refine cf_go 4 ?_
              rcases Bool.eq_false_or_eq_true ((decide ((rb : Int) ≥ 16))) with hc7 | hc7
              · skip
                refine cf_see 28 (.bool true) (see_bool (by kernel_rfl) hc7) ?_
                refine cf_go 25 ?_
                refine cf_end (.bool false) _ (by kernel_rfl) (by kernel_rfl) rfl ?_
                congr 1; revert hc1 hc2 hc3 hc4 hc5 hc6 hc7; simp only [rightV, okB, show inT 16 = true from rfl, show rdB 16 = false from rfl, show raB 16 = true from rfl, show rbB 16 = false from rfl, show imB 16 = true from rfl, Bool.true_and, Bool.true_or, Bool.false_or, Bool.and_true, Bool.and_false]; simp [regV]; try (first | omega | (intros; simp [*]))
              · skip
                refine cf_see 28 (.bool false) (see_bool (by kernel_rfl) hc7) ?_
                refine cf_go 13 ?_
                rcases Bool.eq_false_or_eq_true (((rb : Int) != 0)) with hc8 | hc8
                · skip
                  refine cf_see 39 (.bool true) (see_bool (by kernel_rfl) hc8) ?_
                  refine cf_go 12 ?_
                  refine cf_end (.bool false) _ (by kernel_rfl) (by kernel_rfl) rfl ?_
                  congr 1; revert hc1 hc2 hc3 hc4 hc5 hc6 hc7 hc8; simp only [rightV, okB, show inT 16 = true from rfl, show rdB 16 = false from rfl, show raB 16 = true from rfl, show rbB 16 = false from rfl, show imB 16 = true from rfl, Bool.true_and, Bool.true_or, Bool.false_or, Bool.and_true, Bool.and_false]; simp [regV]; try (first | omega | (intros; simp [*]))
                · skip
                  refine cf_see 39 (.bool false) (see_bool (by kernel_rfl) hc8) ?_
                  refine cf_go 40 ?_
                  refine cf_end (.bool true) _ (by kernel_rfl) (by kernel_rfl) rfl ?_
                  congr 1; revert hc1 hc2 hc3 hc4 hc5 hc6 hc7 hc8; simp only [rightV, okB, show inT 16 = true from rfl, show rdB 16 = false from rfl, show raB 16 = true from rfl, show rbB 16 = false from rfl, show imB 16 = true from rfl, Bool.true_and, Bool.true_or, Bool.false_or, Bool.and_true, Bool.and_false]; simp [regV]; try (first | omega | (intros; simp [*]))
theorem f35_17 {rd ra rb im : Int} : ACall Try.prog T5 35 #[.agg #[.int .i64 17, .int .i64 rd, .int .i64 ra, .int .i64 rb, .int .u32 im]] ⟨.lf, 0⟩ fun r _ => r = .bool (rightV 17 rd ra rb im) := by
  refine acall_cf 53 (initTm 0 #[.agg #[.int .i64 17, .int .i64 rd, .int .i64 ra, .int .i64 rb, .int .u32 im]]) rfl f35_fn f35_body rfl rfl ?_
  refine cf_go 10 ?_
  refine cf_ask 8 (.int .i64 10) 28 #[.int .i64 17] (by kernel_rfl) (by kernel_rfl) (by kernel_rfl) ?_
  refine cf_go 44 ?_
  rcases Bool.eq_false_or_eq_true ((decide ((rd : Int) < 0))) with hc1 | hc1
  · skip
    refine cf_see 24 (.bool true) (see_bool (by kernel_rfl) hc1) ?_
    refine cf_go 29 ?_
    refine cf_end (.bool false) _ (by kernel_rfl) (by kernel_rfl) rfl ?_
    congr 1; revert hc1; simp only [rightV, okB, show inT 17 = true from rfl, show rdB 17 = false from rfl, show raB 17 = true from rfl, show rbB 17 = false from rfl, show imB 17 = true from rfl, Bool.true_and, Bool.true_or, Bool.false_or, Bool.and_true, Bool.and_false]; simp [regV]; try (first | omega | (intros; simp [*]))
  · skip
    refine cf_see 24 (.bool false) (see_bool (by kernel_rfl) hc1) ?_
    refine cf_go 4 ?_
    rcases Bool.eq_false_or_eq_true ((decide ((rd : Int) ≥ 16))) with hc2 | hc2
    · skip
      refine cf_see 28 (.bool true) (see_bool (by kernel_rfl) hc2) ?_
      refine cf_go 25 ?_
      refine cf_end (.bool false) _ (by kernel_rfl) (by kernel_rfl) rfl ?_
      congr 1; revert hc1 hc2; simp only [rightV, okB, show inT 17 = true from rfl, show rdB 17 = false from rfl, show raB 17 = true from rfl, show rbB 17 = false from rfl, show imB 17 = true from rfl, Bool.true_and, Bool.true_or, Bool.false_or, Bool.and_true, Bool.and_false]; simp [regV]; try (first | omega | (intros; simp [*]))
    · skip
      refine cf_see 28 (.bool false) (see_bool (by kernel_rfl) hc2) ?_
      refine cf_go 13 ?_
      rcases Bool.eq_false_or_eq_true (((rd : Int) != 0)) with hc3 | hc3
      · skip
        refine cf_see 39 (.bool true) (see_bool (by kernel_rfl) hc3) ?_
        refine cf_go 12 ?_
        refine cf_end (.bool false) _ (by kernel_rfl) (by kernel_rfl) rfl ?_
        congr 1; revert hc1 hc2 hc3; simp only [rightV, okB, show inT 17 = true from rfl, show rdB 17 = false from rfl, show raB 17 = true from rfl, show rbB 17 = false from rfl, show imB 17 = true from rfl, Bool.true_and, Bool.true_or, Bool.false_or, Bool.and_true, Bool.and_false]; simp [regV]; try (first | omega | (intros; simp [*]))
      · skip
        refine cf_see 39 (.bool false) (see_bool (by kernel_rfl) hc3) ?_
        refine cf_go 35 ?_
        rcases Bool.eq_false_or_eq_true ((decide ((ra : Int) < 0))) with hc4 | hc4
        · skip
          refine cf_see 24 (.bool true) (see_bool (by kernel_rfl) hc4) ?_
          refine cf_go 29 ?_
          refine cf_end (.bool false) _ (by kernel_rfl) (by kernel_rfl) rfl ?_
          congr 1; revert hc1 hc2 hc3 hc4; simp only [rightV, okB, show inT 17 = true from rfl, show rdB 17 = false from rfl, show raB 17 = true from rfl, show rbB 17 = false from rfl, show imB 17 = true from rfl, Bool.true_and, Bool.true_or, Bool.false_or, Bool.and_true, Bool.and_false]; simp [regV]; try (first | omega | (intros; simp [*]))
        · skip
          refine cf_see 24 (.bool false) (see_bool (by kernel_rfl) hc4) ?_
          refine cf_go 4 ?_
          rcases Bool.eq_false_or_eq_true ((decide ((ra : Int) ≥ 16))) with hc5 | hc5
          · skip
            refine cf_see 28 (.bool true) (see_bool (by kernel_rfl) hc5) ?_
            refine cf_go 25 ?_
            refine cf_end (.bool false) _ (by kernel_rfl) (by kernel_rfl) rfl ?_
            congr 1; revert hc1 hc2 hc3 hc4 hc5; simp only [rightV, okB, show inT 17 = true from rfl, show rdB 17 = false from rfl, show raB 17 = true from rfl, show rbB 17 = false from rfl, show imB 17 = true from rfl, Bool.true_and, Bool.true_or, Bool.false_or, Bool.and_true, Bool.and_false]; simp [regV]; try (first | omega | (intros; simp [*]))
          · skip
            refine cf_see 28 (.bool false) (see_bool (by kernel_rfl) hc5) ?_
            refine cf_go 48 ?_
            rcases Bool.eq_false_or_eq_true ((decide ((rb : Int) < 0))) with hc6 | hc6
            · skip
              refine cf_see 24 (.bool true) (see_bool (by kernel_rfl) hc6) ?_
              refine cf_go 29 ?_
              refine cf_end (.bool false) _ (by kernel_rfl) (by kernel_rfl) rfl ?_
              congr 1; revert hc1 hc2 hc3 hc4 hc5 hc6; simp only [rightV, okB, show inT 17 = true from rfl, show rdB 17 = false from rfl, show raB 17 = true from rfl, show rbB 17 = false from rfl, show imB 17 = true from rfl, Bool.true_and, Bool.true_or, Bool.false_or, Bool.and_true, Bool.and_false]; simp [regV]; try (first | omega | (intros; simp [*]))
            · skip
              refine cf_see 24 (.bool false) (see_bool (by kernel_rfl) hc6) ?_
              refine cf_go 4 ?_
              rcases Bool.eq_false_or_eq_true ((decide ((rb : Int) ≥ 16))) with hc7 | hc7
              · skip
                refine cf_see 28 (.bool true) (see_bool (by kernel_rfl) hc7) ?_
                refine cf_go 25 ?_
                refine cf_end (.bool false) _ (by kernel_rfl) (by kernel_rfl) rfl ?_
                congr 1; revert hc1 hc2 hc3 hc4 hc5 hc6 hc7; simp only [rightV, okB, show inT 17 = true from rfl, show rdB 17 = false from rfl, show raB 17 = true from rfl, show rbB 17 = false from rfl, show imB 17 = true from rfl, Bool.true_and, Bool.true_or, Bool.false_or, Bool.and_true, Bool.and_false]; simp [regV]; try (first | omega | (intros; simp [*]))
              · skip
                refine cf_see 28 (.bool false) (see_bool (by kernel_rfl) hc7) ?_
                refine cf_go 13 ?_
                rcases Bool.eq_false_or_eq_true (((rb : Int) != 0)) with hc8 | hc8
                · skip
                  refine cf_see 39 (.bool true) (see_bool (by kernel_rfl) hc8) ?_
                  refine cf_go 12 ?_
                  refine cf_end (.bool false) _ (by kernel_rfl) (by kernel_rfl) rfl ?_
                  congr 1; revert hc1 hc2 hc3 hc4 hc5 hc6 hc7 hc8; simp only [rightV, okB, show inT 17 = true from rfl, show rdB 17 = false from rfl, show raB 17 = true from rfl, show rbB 17 = false from rfl, show imB 17 = true from rfl, Bool.true_and, Bool.true_or, Bool.false_or, Bool.and_true, Bool.and_false]; simp [regV]; try (first | omega | (intros; simp [*]))
                · skip
                  refine cf_see 39 (.bool false) (see_bool (by kernel_rfl) hc8) ?_
                  refine cf_go 40 ?_
                  refine cf_end (.bool true) _ (by kernel_rfl) (by kernel_rfl) rfl ?_
                  congr 1; revert hc1 hc2 hc3 hc4 hc5 hc6 hc7 hc8; simp only [rightV, okB, show inT 17 = true from rfl, show rdB 17 = false from rfl, show raB 17 = true from rfl, show rbB 17 = false from rfl, show imB 17 = true from rfl, Bool.true_and, Bool.true_or, Bool.false_or, Bool.and_true, Bool.and_false]; simp [regV]; try (first | omega | (intros; simp [*]))
theorem f35_18 {rd ra rb im : Int} : ACall Try.prog T5 35 #[.agg #[.int .i64 18, .int .i64 rd, .int .i64 ra, .int .i64 rb, .int .u32 im]] ⟨.lf, 0⟩ fun r _ => r = .bool (rightV 18 rd ra rb im) := by
  refine acall_cf 53 (initTm 0 #[.agg #[.int .i64 18, .int .i64 rd, .int .i64 ra, .int .i64 rb, .int .u32 im]]) rfl f35_fn f35_body rfl rfl ?_
  refine cf_go 10 ?_
  refine cf_ask 8 (.int .i64 8) 28 #[.int .i64 18] (by kernel_rfl) (by kernel_rfl) (by kernel_rfl) ?_
  refine cf_go 44 ?_
  rcases Bool.eq_false_or_eq_true ((decide ((rd : Int) < 0))) with hc1 | hc1
  · skip
    refine cf_see 24 (.bool true) (see_bool (by kernel_rfl) hc1) ?_
    refine cf_go 29 ?_
    refine cf_end (.bool false) _ (by kernel_rfl) (by kernel_rfl) rfl ?_
    congr 1; revert hc1; simp only [rightV, okB, show inT 18 = true from rfl, show rdB 18 = false from rfl, show raB 18 = false from rfl, show rbB 18 = false from rfl, show imB 18 = true from rfl, Bool.true_and, Bool.true_or, Bool.false_or, Bool.and_true, Bool.and_false]; simp [regV]; try (first | omega | (intros; simp [*]))
  · skip
    refine cf_see 24 (.bool false) (see_bool (by kernel_rfl) hc1) ?_
    refine cf_go 4 ?_
    rcases Bool.eq_false_or_eq_true ((decide ((rd : Int) ≥ 16))) with hc2 | hc2
    · skip
      refine cf_see 28 (.bool true) (see_bool (by kernel_rfl) hc2) ?_
      refine cf_go 25 ?_
      refine cf_end (.bool false) _ (by kernel_rfl) (by kernel_rfl) rfl ?_
      congr 1; revert hc1 hc2; simp only [rightV, okB, show inT 18 = true from rfl, show rdB 18 = false from rfl, show raB 18 = false from rfl, show rbB 18 = false from rfl, show imB 18 = true from rfl, Bool.true_and, Bool.true_or, Bool.false_or, Bool.and_true, Bool.and_false]; simp [regV]; try (first | omega | (intros; simp [*]))
    · skip
      refine cf_see 28 (.bool false) (see_bool (by kernel_rfl) hc2) ?_
      refine cf_go 13 ?_
      rcases Bool.eq_false_or_eq_true (((rd : Int) != 0)) with hc3 | hc3
      · skip
        refine cf_see 39 (.bool true) (see_bool (by kernel_rfl) hc3) ?_
        refine cf_go 12 ?_
        refine cf_end (.bool false) _ (by kernel_rfl) (by kernel_rfl) rfl ?_
        congr 1; revert hc1 hc2 hc3; simp only [rightV, okB, show inT 18 = true from rfl, show rdB 18 = false from rfl, show raB 18 = false from rfl, show rbB 18 = false from rfl, show imB 18 = true from rfl, Bool.true_and, Bool.true_or, Bool.false_or, Bool.and_true, Bool.and_false]; simp [regV]; try (first | omega | (intros; simp [*]))
      · skip
        refine cf_see 39 (.bool false) (see_bool (by kernel_rfl) hc3) ?_
        refine cf_go 35 ?_
        rcases Bool.eq_false_or_eq_true ((decide ((ra : Int) < 0))) with hc4 | hc4
        · skip
          refine cf_see 24 (.bool true) (see_bool (by kernel_rfl) hc4) ?_
          refine cf_go 29 ?_
          refine cf_end (.bool false) _ (by kernel_rfl) (by kernel_rfl) rfl ?_
          congr 1; revert hc1 hc2 hc3 hc4; simp only [rightV, okB, show inT 18 = true from rfl, show rdB 18 = false from rfl, show raB 18 = false from rfl, show rbB 18 = false from rfl, show imB 18 = true from rfl, Bool.true_and, Bool.true_or, Bool.false_or, Bool.and_true, Bool.and_false]; simp [regV]; try (first | omega | (intros; simp [*]))
        · skip
          refine cf_see 24 (.bool false) (see_bool (by kernel_rfl) hc4) ?_
          refine cf_go 4 ?_
          rcases Bool.eq_false_or_eq_true ((decide ((ra : Int) ≥ 16))) with hc5 | hc5
          · skip
            refine cf_see 28 (.bool true) (see_bool (by kernel_rfl) hc5) ?_
            refine cf_go 25 ?_
            refine cf_end (.bool false) _ (by kernel_rfl) (by kernel_rfl) rfl ?_
            congr 1; revert hc1 hc2 hc3 hc4 hc5; simp only [rightV, okB, show inT 18 = true from rfl, show rdB 18 = false from rfl, show raB 18 = false from rfl, show rbB 18 = false from rfl, show imB 18 = true from rfl, Bool.true_and, Bool.true_or, Bool.false_or, Bool.and_true, Bool.and_false]; simp [regV]; try (first | omega | (intros; simp [*]))
          · skip
            refine cf_see 28 (.bool false) (see_bool (by kernel_rfl) hc5) ?_
            refine cf_go 13 ?_
            rcases Bool.eq_false_or_eq_true (((ra : Int) != 0)) with hc6 | hc6
            · skip
              refine cf_see 39 (.bool true) (see_bool (by kernel_rfl) hc6) ?_
              refine cf_go 12 ?_
              refine cf_end (.bool false) _ (by kernel_rfl) (by kernel_rfl) rfl ?_
              congr 1; revert hc1 hc2 hc3 hc4 hc5 hc6; simp only [rightV, okB, show inT 18 = true from rfl, show rdB 18 = false from rfl, show raB 18 = false from rfl, show rbB 18 = false from rfl, show imB 18 = true from rfl, Bool.true_and, Bool.true_or, Bool.false_or, Bool.and_true, Bool.and_false]; simp [regV]; try (first | omega | (intros; simp [*]))
            · skip
              refine cf_see 39 (.bool false) (see_bool (by kernel_rfl) hc6) ?_
              refine cf_go 35 ?_
              rcases Bool.eq_false_or_eq_true ((decide ((rb : Int) < 0))) with hc7 | hc7
              · skip
                refine cf_see 24 (.bool true) (see_bool (by kernel_rfl) hc7) ?_
                refine cf_go 29 ?_
                refine cf_end (.bool false) _ (by kernel_rfl) (by kernel_rfl) rfl ?_
                congr 1; revert hc1 hc2 hc3 hc4 hc5 hc6 hc7; simp only [rightV, okB, show inT 18 = true from rfl, show rdB 18 = false from rfl, show raB 18 = false from rfl, show rbB 18 = false from rfl, show imB 18 = true from rfl, Bool.true_and, Bool.true_or, Bool.false_or, Bool.and_true, Bool.and_false]; simp [regV]; try (first | omega | (intros; simp [*]))
              · skip
                refine cf_see 24 (.bool false) (see_bool (by kernel_rfl) hc7) ?_
                refine cf_go 4 ?_
                rcases Bool.eq_false_or_eq_true ((decide ((rb : Int) ≥ 16))) with hc8 | hc8
                · skip
                  refine cf_see 28 (.bool true) (see_bool (by kernel_rfl) hc8) ?_
                  refine cf_go 25 ?_
                  refine cf_end (.bool false) _ (by kernel_rfl) (by kernel_rfl) rfl ?_
                  congr 1; revert hc1 hc2 hc3 hc4 hc5 hc6 hc7 hc8; simp only [rightV, okB, show inT 18 = true from rfl, show rdB 18 = false from rfl, show raB 18 = false from rfl, show rbB 18 = false from rfl, show imB 18 = true from rfl, Bool.true_and, Bool.true_or, Bool.false_or, Bool.and_true, Bool.and_false]; simp [regV]; try (first | omega | (intros; simp [*]))
                · skip
                  refine cf_see 28 (.bool false) (see_bool (by kernel_rfl) hc8) ?_
                  refine cf_go 13 ?_
                  rcases Bool.eq_false_or_eq_true (((rb : Int) != 0)) with hc9 | hc9
                  · skip
                    refine cf_see 39 (.bool true) (see_bool (by kernel_rfl) hc9) ?_
                    refine cf_go 12 ?_
                    refine cf_end (.bool false) _ (by kernel_rfl) (by kernel_rfl) rfl ?_
                    congr 1; revert hc1 hc2 hc3 hc4 hc5 hc6 hc7 hc8 hc9; simp only [rightV, okB, show inT 18 = true from rfl, show rdB 18 = false from rfl, show raB 18 = false from rfl, show rbB 18 = false from rfl, show imB 18 = true from rfl, Bool.true_and, Bool.true_or, Bool.false_or, Bool.and_true, Bool.and_false]; simp [regV]; try (first | omega | (intros; simp [*]))
                  · skip
                    refine cf_see 39 (.bool false) (see_bool (by kernel_rfl) hc9) ?_
                    refine cf_go 40 ?_
                    refine cf_end (.bool true) _ (by kernel_rfl) (by kernel_rfl) rfl ?_
                    congr 1; revert hc1 hc2 hc3 hc4 hc5 hc6 hc7 hc8 hc9; simp only [rightV, okB, show inT 18 = true from rfl, show rdB 18 = false from rfl, show raB 18 = false from rfl, show rbB 18 = false from rfl, show imB 18 = true from rfl, Bool.true_and, Bool.true_or, Bool.false_or, Bool.and_true, Bool.and_false]; simp [regV]; try (first | omega | (intros; simp [*]))
theorem f35_19 {rd ra rb im : Int} : ACall Try.prog T5 35 #[.agg #[.int .i64 19, .int .i64 rd, .int .i64 ra, .int .i64 rb, .int .u32 im]] ⟨.lf, 0⟩ fun r _ => r = .bool (rightV 19 rd ra rb im) := by
  refine acall_cf 53 (initTm 0 #[.agg #[.int .i64 19, .int .i64 rd, .int .i64 ra, .int .i64 rb, .int .u32 im]]) rfl f35_fn f35_body rfl rfl ?_
  refine cf_go 10 ?_
  refine cf_ask 8 (.int .i64 8) 28 #[.int .i64 19] (by kernel_rfl) (by kernel_rfl) (by kernel_rfl) ?_
  refine cf_go 44 ?_
  rcases Bool.eq_false_or_eq_true ((decide ((rd : Int) < 0))) with hc1 | hc1
  · skip
    refine cf_see 24 (.bool true) (see_bool (by kernel_rfl) hc1) ?_
    refine cf_go 29 ?_
    refine cf_end (.bool false) _ (by kernel_rfl) (by kernel_rfl) rfl ?_
    congr 1; revert hc1; simp only [rightV, okB, show inT 19 = true from rfl, show rdB 19 = false from rfl, show raB 19 = false from rfl, show rbB 19 = false from rfl, show imB 19 = true from rfl, Bool.true_and, Bool.true_or, Bool.false_or, Bool.and_true, Bool.and_false]; simp [regV]; try (first | omega | (intros; simp [*]))
  · skip
    refine cf_see 24 (.bool false) (see_bool (by kernel_rfl) hc1) ?_
    refine cf_go 4 ?_
    rcases Bool.eq_false_or_eq_true ((decide ((rd : Int) ≥ 16))) with hc2 | hc2
    · skip
      refine cf_see 28 (.bool true) (see_bool (by kernel_rfl) hc2) ?_
      refine cf_go 25 ?_
      refine cf_end (.bool false) _ (by kernel_rfl) (by kernel_rfl) rfl ?_
      congr 1; revert hc1 hc2; simp only [rightV, okB, show inT 19 = true from rfl, show rdB 19 = false from rfl, show raB 19 = false from rfl, show rbB 19 = false from rfl, show imB 19 = true from rfl, Bool.true_and, Bool.true_or, Bool.false_or, Bool.and_true, Bool.and_false]; simp [regV]; try (first | omega | (intros; simp [*]))
    · skip
      refine cf_see 28 (.bool false) (see_bool (by kernel_rfl) hc2) ?_
      refine cf_go 13 ?_
      rcases Bool.eq_false_or_eq_true (((rd : Int) != 0)) with hc3 | hc3
      · skip
        refine cf_see 39 (.bool true) (see_bool (by kernel_rfl) hc3) ?_
        refine cf_go 12 ?_
        refine cf_end (.bool false) _ (by kernel_rfl) (by kernel_rfl) rfl ?_
        congr 1; revert hc1 hc2 hc3; simp only [rightV, okB, show inT 19 = true from rfl, show rdB 19 = false from rfl, show raB 19 = false from rfl, show rbB 19 = false from rfl, show imB 19 = true from rfl, Bool.true_and, Bool.true_or, Bool.false_or, Bool.and_true, Bool.and_false]; simp [regV]; try (first | omega | (intros; simp [*]))
      · skip
        refine cf_see 39 (.bool false) (see_bool (by kernel_rfl) hc3) ?_
        refine cf_go 35 ?_
        rcases Bool.eq_false_or_eq_true ((decide ((ra : Int) < 0))) with hc4 | hc4
        · skip
          refine cf_see 24 (.bool true) (see_bool (by kernel_rfl) hc4) ?_
          refine cf_go 29 ?_
          refine cf_end (.bool false) _ (by kernel_rfl) (by kernel_rfl) rfl ?_
          congr 1; revert hc1 hc2 hc3 hc4; simp only [rightV, okB, show inT 19 = true from rfl, show rdB 19 = false from rfl, show raB 19 = false from rfl, show rbB 19 = false from rfl, show imB 19 = true from rfl, Bool.true_and, Bool.true_or, Bool.false_or, Bool.and_true, Bool.and_false]; simp [regV]; try (first | omega | (intros; simp [*]))
        · skip
          refine cf_see 24 (.bool false) (see_bool (by kernel_rfl) hc4) ?_
          refine cf_go 4 ?_
          rcases Bool.eq_false_or_eq_true ((decide ((ra : Int) ≥ 16))) with hc5 | hc5
          · skip
            refine cf_see 28 (.bool true) (see_bool (by kernel_rfl) hc5) ?_
            refine cf_go 25 ?_
            refine cf_end (.bool false) _ (by kernel_rfl) (by kernel_rfl) rfl ?_
            congr 1; revert hc1 hc2 hc3 hc4 hc5; simp only [rightV, okB, show inT 19 = true from rfl, show rdB 19 = false from rfl, show raB 19 = false from rfl, show rbB 19 = false from rfl, show imB 19 = true from rfl, Bool.true_and, Bool.true_or, Bool.false_or, Bool.and_true, Bool.and_false]; simp [regV]; try (first | omega | (intros; simp [*]))
          · skip
            refine cf_see 28 (.bool false) (see_bool (by kernel_rfl) hc5) ?_
            refine cf_go 13 ?_
            rcases Bool.eq_false_or_eq_true (((ra : Int) != 0)) with hc6 | hc6
            · skip
              refine cf_see 39 (.bool true) (see_bool (by kernel_rfl) hc6) ?_
              refine cf_go 12 ?_
              refine cf_end (.bool false) _ (by kernel_rfl) (by kernel_rfl) rfl ?_
              congr 1; revert hc1 hc2 hc3 hc4 hc5 hc6; simp only [rightV, okB, show inT 19 = true from rfl, show rdB 19 = false from rfl, show raB 19 = false from rfl, show rbB 19 = false from rfl, show imB 19 = true from rfl, Bool.true_and, Bool.true_or, Bool.false_or, Bool.and_true, Bool.and_false]; simp [regV]; try (first | omega | (intros; simp [*]))
            · skip
              refine cf_see 39 (.bool false) (see_bool (by kernel_rfl) hc6) ?_
              refine cf_go 35 ?_
              rcases Bool.eq_false_or_eq_true ((decide ((rb : Int) < 0))) with hc7 | hc7
              · skip
                refine cf_see 24 (.bool true) (see_bool (by kernel_rfl) hc7) ?_
                refine cf_go 29 ?_
                refine cf_end (.bool false) _ (by kernel_rfl) (by kernel_rfl) rfl ?_
                congr 1; revert hc1 hc2 hc3 hc4 hc5 hc6 hc7; simp only [rightV, okB, show inT 19 = true from rfl, show rdB 19 = false from rfl, show raB 19 = false from rfl, show rbB 19 = false from rfl, show imB 19 = true from rfl, Bool.true_and, Bool.true_or, Bool.false_or, Bool.and_true, Bool.and_false]; simp [regV]; try (first | omega | (intros; simp [*]))
              · skip
                refine cf_see 24 (.bool false) (see_bool (by kernel_rfl) hc7) ?_
                refine cf_go 4 ?_
                rcases Bool.eq_false_or_eq_true ((decide ((rb : Int) ≥ 16))) with hc8 | hc8
                · skip
                  refine cf_see 28 (.bool true) (see_bool (by kernel_rfl) hc8) ?_
                  refine cf_go 25 ?_
                  refine cf_end (.bool false) _ (by kernel_rfl) (by kernel_rfl) rfl ?_
                  congr 1; revert hc1 hc2 hc3 hc4 hc5 hc6 hc7 hc8; simp only [rightV, okB, show inT 19 = true from rfl, show rdB 19 = false from rfl, show raB 19 = false from rfl, show rbB 19 = false from rfl, show imB 19 = true from rfl, Bool.true_and, Bool.true_or, Bool.false_or, Bool.and_true, Bool.and_false]; simp [regV]; try (first | omega | (intros; simp [*]))
                · skip
                  refine cf_see 28 (.bool false) (see_bool (by kernel_rfl) hc8) ?_
                  refine cf_go 13 ?_
                  rcases Bool.eq_false_or_eq_true (((rb : Int) != 0)) with hc9 | hc9
                  · skip
                    refine cf_see 39 (.bool true) (see_bool (by kernel_rfl) hc9) ?_
                    refine cf_go 12 ?_
                    refine cf_end (.bool false) _ (by kernel_rfl) (by kernel_rfl) rfl ?_
                    congr 1; revert hc1 hc2 hc3 hc4 hc5 hc6 hc7 hc8 hc9; simp only [rightV, okB, show inT 19 = true from rfl, show rdB 19 = false from rfl, show raB 19 = false from rfl, show rbB 19 = false from rfl, show imB 19 = true from rfl, Bool.true_and, Bool.true_or, Bool.false_or, Bool.and_true, Bool.and_false]; simp [regV]; try (first | omega | (intros; simp [*]))
                  · skip
                    refine cf_see 39 (.bool false) (see_bool (by kernel_rfl) hc9) ?_
                    refine cf_go 40 ?_
                    refine cf_end (.bool true) _ (by kernel_rfl) (by kernel_rfl) rfl ?_
                    congr 1; revert hc1 hc2 hc3 hc4 hc5 hc6 hc7 hc8 hc9; simp only [rightV, okB, show inT 19 = true from rfl, show rdB 19 = false from rfl, show raB 19 = false from rfl, show rbB 19 = false from rfl, show imB 19 = true from rfl, Bool.true_and, Bool.true_or, Bool.false_or, Bool.and_true, Bool.and_false]; simp [regV]; try (first | omega | (intros; simp [*]))
theorem f35_out {op rd ra rb im : Int} (hin : inT op = false) : ACall Try.prog T5 35 #[.agg #[.int .i64 op, .int .i64 rd, .int .i64 ra, .int .i64 rb, .int .u32 im]] ⟨.lf, 0⟩ fun r _ => r = .bool (rightV op rd ra rb im) := by
  refine acall_cf 53 (initTm 0 #[.agg #[.int .i64 op, .int .i64 rd, .int .i64 ra, .int .i64 rb, .int .u32 im]]) rfl f35_fn f35_body rfl rfl ?_
  refine cf_go 10 ?_
  refine cf_ask 8 (.int .i64 (-1)) 28 #[.int .i64 op] (by kernel_rfl) (by kernel_rfl) (show some (Value.int .i64 (fieldsV op)) = _ by simp only [fieldsV, hin, cond_false]) ?_
  refine cf_go 44 ?_
  rcases Bool.eq_false_or_eq_true ((decide ((rd : Int) < 0))) with hc1 | hc1
  · skip
    refine cf_see 24 (.bool true) (see_bool (by kernel_rfl) hc1) ?_
    refine cf_go 29 ?_
    refine cf_end (.bool false) _ (by kernel_rfl) (by kernel_rfl) rfl ?_
    congr 1; simp only [rightV, hin, Bool.false_and]
  · skip
    refine cf_see 24 (.bool false) (see_bool (by kernel_rfl) hc1) ?_
    refine cf_go 4 ?_
    rcases Bool.eq_false_or_eq_true ((decide ((rd : Int) ≥ 16))) with hc2 | hc2
    · skip
      refine cf_see 28 (.bool true) (see_bool (by kernel_rfl) hc2) ?_
      refine cf_go 25 ?_
      refine cf_end (.bool false) _ (by kernel_rfl) (by kernel_rfl) rfl ?_
      congr 1; simp only [rightV, hin, Bool.false_and]
    · skip
      refine cf_see 28 (.bool false) (see_bool (by kernel_rfl) hc2) ?_
      refine cf_go 48 ?_
      rcases Bool.eq_false_or_eq_true ((decide ((ra : Int) < 0))) with hc3 | hc3
      · skip
        refine cf_see 24 (.bool true) (see_bool (by kernel_rfl) hc3) ?_
        refine cf_go 29 ?_
        refine cf_end (.bool false) _ (by kernel_rfl) (by kernel_rfl) rfl ?_
        congr 1; simp only [rightV, hin, Bool.false_and]
      · skip
        refine cf_see 24 (.bool false) (see_bool (by kernel_rfl) hc3) ?_
        refine cf_go 4 ?_
        rcases Bool.eq_false_or_eq_true ((decide ((ra : Int) ≥ 16))) with hc4 | hc4
        · skip
          refine cf_see 28 (.bool true) (see_bool (by kernel_rfl) hc4) ?_
          refine cf_go 25 ?_
          refine cf_end (.bool false) _ (by kernel_rfl) (by kernel_rfl) rfl ?_
          congr 1; simp only [rightV, hin, Bool.false_and]
        · skip
          refine cf_see 28 (.bool false) (see_bool (by kernel_rfl) hc4) ?_
          refine cf_go 48 ?_
          rcases Bool.eq_false_or_eq_true ((decide ((rb : Int) < 0))) with hc5 | hc5
          · skip
            refine cf_see 24 (.bool true) (see_bool (by kernel_rfl) hc5) ?_
            refine cf_go 29 ?_
            refine cf_end (.bool false) _ (by kernel_rfl) (by kernel_rfl) rfl ?_
            congr 1; simp only [rightV, hin, Bool.false_and]
          · skip
            refine cf_see 24 (.bool false) (see_bool (by kernel_rfl) hc5) ?_
            refine cf_go 4 ?_
            rcases Bool.eq_false_or_eq_true ((decide ((rb : Int) ≥ 16))) with hc6 | hc6
            · skip
              refine cf_see 28 (.bool true) (see_bool (by kernel_rfl) hc6) ?_
              refine cf_go 25 ?_
              refine cf_end (.bool false) _ (by kernel_rfl) (by kernel_rfl) rfl ?_
              congr 1; simp only [rightV, hin, Bool.false_and]
            · skip
              refine cf_see 28 (.bool false) (see_bool (by kernel_rfl) hc6) ?_
              refine cf_go 53 ?_
              refine cf_end (.bool false) _ (by kernel_rfl) (by kernel_rfl) rfl ?_
              congr 1; simp only [rightV, hin, Bool.false_and]
theorem f35_any (op rd ra rb im : Int) : ACall Try.prog T5 35 #[.agg #[.int .i64 op, .int .i64 rd, .int .i64 ra, .int .i64 rb, .int .u32 im]] ⟨.lf, 0⟩ fun r _ => r = .bool (rightV op rd ra rb im) := by
  cases hin : inT op
  · exact f35_out hin
  · rcases inT_of hin with rfl | rfl | rfl | rfl | rfl | rfl | rfl | rfl | rfl | rfl | rfl | rfl | rfl | rfl | rfl | rfl | rfl | rfl | rfl | rfl
    · exact f35_0
    · exact f35_1
    · exact f35_2
    · exact f35_3
    · exact f35_4
    · exact f35_5
    · exact f35_6
    · exact f35_7
    · exact f35_8
    · exact f35_9
    · exact f35_10
    · exact f35_11
    · exact f35_12
    · exact f35_13
    · exact f35_14
    · exact f35_15
    · exact f35_16
    · exact f35_17
    · exact f35_18
    · exact f35_19
def sp35 : List Value → Option Value
  | [.agg ⟨[.int .i64 op, .int .i64 rd, .int .i64 ra, .int .i64 rb, .int .u32 im]⟩] => some (.bool (rightV op rd ra rb im))
  | _ => none
noncomputable def T6 : Tab := { T5 with orc := addOrc T5.orc 35 sp35 }
theorem progOk6 [Bs] : ProgOk Try.prog T6 := progOk5.know 35 sp35 fun args v h => by
  unfold sp35 at h
  split at h
  · rename_i op rd ra rb im; cases h; exact ⟨rfl, rfl, f35_any op rd ra rb im⟩
  · cases h
end Hm
end Go.Proofs.Ytjhijpfbokklcaa
