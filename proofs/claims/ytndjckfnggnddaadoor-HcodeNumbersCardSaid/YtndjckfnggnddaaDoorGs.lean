/- Chapter 3: instructions that are drawn; Encode. -/
import Derived.Test.YtndjckfnggnddaaDoorGe
namespace Go.Proofs.YtndjckfnggnddaaDoor
open Go Go.Ev Go.RowKit
set_option linter.unusedVariables false
set_option linter.unusedSimpArgs false
set_option maxRecDepth 100000
namespace Hc
def i64B (n : Int) : Bool := decide (-9223372036854775808 ≤ n) && decide (n ≤ 9223372036854775807)
theorem i64_inB {n lo hi : Int} (h : i64B n = true) (h1 : 0 ≤ lo) (h2 : lo ≤ hi) (h3 : hi ≤ 1000) : inB n lo hi = true := by
  simp only [i64B, Bool.and_eq_true, decide_eq_true_eq] at h; simp only [inB, Bool.and_eq_true, decide_eq_true_eq]; omega
noncomputable def f6b : Code := Tryd.f6.body.getD .skip
noncomputable def f6ba : Code := cl f6b
noncomputable def f6bao : Array Oper := opsOf f6ba
noncomputable def f6bc : Code := cr f6b
noncomputable def f6bca : Code := cl f6bc
noncomputable def f6bcao : Array Oper := opsOf f6bca
noncomputable def f6bcc : Code := cr f6bc
noncomputable def f6bcca : Code := cl f6bcc
noncomputable def f6bccao : Array Oper := opsOf f6bcca
noncomputable def f6bccc : Code := cr f6bcc
noncomputable def f6bccca : Code := cl f6bccc
noncomputable def f6bcccaa : Code := cl f6bccca
noncomputable def f6bcccaao : Array Oper := opsOf f6bcccaa
noncomputable def f6bcccac : Code := cr f6bccca
noncomputable def f6bcccaca : Code := cl f6bcccac
noncomputable def f6bcccacao : Array Oper := opsOf f6bcccaca
noncomputable def f6bcccc : Code := cr f6bccc
noncomputable def f6bcccca : Code := cl f6bcccc
noncomputable def f6bccccaa : Code := cl f6bcccca
noncomputable def f6bccccaao : Array Oper := opsOf f6bccccaa
noncomputable def f6bccccac : Code := cr f6bcccca
noncomputable def f6bccccaca : Code := cl f6bccccac
noncomputable def f6bccccacao : Array Oper := opsOf f6bccccaca
noncomputable def f6bccccc : Code := cr f6bcccc
noncomputable def f6bccccca : Code := cl f6bccccc
noncomputable def f6bcccccaa : Code := cl f6bccccca
noncomputable def f6bcccccaao : Array Oper := opsOf f6bcccccaa
noncomputable def f6bcccccac : Code := cr f6bccccca
noncomputable def f6bcccccaca : Code := cl f6bcccccac
noncomputable def f6bcccccacao : Array Oper := opsOf f6bcccccaca
noncomputable def f6bcccccc : Code := cr f6bccccc
noncomputable def f6bcccccca : Code := cl f6bcccccc
noncomputable def f6bccccccaa : Code := cl f6bcccccca
noncomputable def f6bccccccaao : Array Oper := opsOf f6bccccccaa
noncomputable def f6bccccccac : Code := cr f6bcccccca
noncomputable def f6bccccccaca : Code := cl f6bccccccac
noncomputable def f6bccccccacao : Array Oper := opsOf f6bccccccaca
noncomputable def f6bccccccc : Code := cr f6bcccccc
noncomputable def f6bccccccca : Code := cl f6bccccccc
noncomputable def f6bcccccccao : Array Oper := opsOf f6bccccccca
theorem f6ba_eq : f6ba = .region 0 f6bao false := by kernel_rfl
theorem f6bca_eq : f6bca = .region 1 f6bcao false := by kernel_rfl
theorem f6bcca_eq : f6bcca = .region 2 f6bccao false := by kernel_rfl
theorem f6bcccaa_eq : f6bcccaa = .region 3 f6bcccaao false := by kernel_rfl
theorem f6bcccaca_eq : f6bcccaca = .region 4 f6bcccacao false := by kernel_rfl
theorem f6bcccac_eq : f6bcccac = .cond (cop f6bcccac) f6bcccaca .skip := by kernel_rfl
theorem f6bccca_eq : f6bccca = .seq f6bcccaa f6bcccac := by kernel_rfl
theorem f6bccccaa_eq : f6bccccaa = .region 5 f6bccccaao false := by kernel_rfl
theorem f6bccccaca_eq : f6bccccaca = .region 6 f6bccccacao false := by kernel_rfl
theorem f6bccccac_eq : f6bccccac = .cond (cop f6bccccac) f6bccccaca .skip := by kernel_rfl
theorem f6bcccca_eq : f6bcccca = .seq f6bccccaa f6bccccac := by kernel_rfl
theorem f6bcccccaa_eq : f6bcccccaa = .region 7 f6bcccccaao false := by kernel_rfl
theorem f6bcccccaca_eq : f6bcccccaca = .region 8 f6bcccccacao false := by kernel_rfl
theorem f6bcccccac_eq : f6bcccccac = .cond (cop f6bcccccac) f6bcccccaca .skip := by kernel_rfl
theorem f6bccccca_eq : f6bccccca = .seq f6bcccccaa f6bcccccac := by kernel_rfl
theorem f6bccccccaa_eq : f6bccccccaa = .region 9 f6bccccccaao false := by kernel_rfl
theorem f6bccccccaca_eq : f6bccccccaca = .region 10 f6bccccccacao false := by kernel_rfl
theorem f6bccccccac_eq : f6bccccccac = .cond (cop f6bccccccac) f6bccccccaca .skip := by kernel_rfl
theorem f6bcccccca_eq : f6bcccccca = .seq f6bccccccaa f6bccccccac := by kernel_rfl
theorem f6bccccccca_eq : f6bccccccca = .region 11 f6bcccccccao false := by kernel_rfl
theorem f6bccccccc_eq : f6bccccccc = .seq f6bccccccca .ret := by kernel_rfl
theorem f6bcccccc_eq : f6bcccccc = .seq f6bcccccca f6bccccccc := by kernel_rfl
theorem f6bccccc_eq : f6bccccc = .seq f6bccccca f6bcccccc := by kernel_rfl
theorem f6bcccc_eq : f6bcccc = .seq f6bcccca f6bccccc := by kernel_rfl
theorem f6bccc_eq : f6bccc = .seq f6bccca f6bcccc := by kernel_rfl
theorem f6bcc_eq : f6bcc = .seq f6bcca f6bccc := by kernel_rfl
theorem f6bc_eq : f6bc = .seq f6bca f6bcc := by kernel_rfl
theorem f6b_eq : f6b = .seq f6ba f6bc := by kernel_rfl
theorem f6_body : Tryd.f6.body = some f6b := by kernel_rfl
theorem f6_fn : T11.fn 6 = some Tryd.f6 := by kernel_rfl
theorem f6_0 {op rd ra rb im : Int} (hop : i64B op = true) (hrd : i64B rd = true) (hra : i64B ra = true) (hrb : i64B rb = true) (ho : op % 20 = 0) : ACall Tryd.prog T11 6 #[.agg #[.int .i64 op, .int .i64 rd, .int .i64 ra, .int .i64 rb, .int .u32 im]] ⟨.lf, 0⟩ fun r _ => r = .agg #[.int .i64 (op % 20), .int .i64 (pick0 (rdB (op % 20)) (rd % 16)), .int .i64 (pick0 (raB (op % 20)) (ra % 16)), .int .i64 (pick0 (rbB (op % 20)) (rb % 16)), .int .u32 (pick0 (imB (op % 20)) im)] := by
  refine acall_of' 40 (initTm 0 #[.agg #[.int .i64 op, .int .i64 rd, .int .i64 ra, .int .i64 rb, .int .u32 im]]) rfl f6_fn f6_body rfl rfl ?_
  refine aw_code f6b_eq ?_
  refine aw_then ?_
  refine aw_code f6ba_eq ?_
  refine aw_reg ?_
  refine aops_go 2 60 (by kernel_rfl) ?_
  refine aops_end (by kernel_rfl) (then_normal ?_)
  refine aw_code f6bc_eq ?_
  refine aw_then ?_
  refine aw_code f6bca_eq ?_
  refine aw_reg ?_
  refine aops_go 2 60 (by kernel_rfl) ?_
  refine aops_ask 7 (.int .i64 (0 + op % (19 - 0 + 1))) 14 #[.int .i64 op, .int .i64 0, .int .i64 19] (by kernel_rfl) (by kernel_rfl) (by kernel_rfl) (by kernel_rfl) (orc14 op 0 19 (i64_inB hop (by omega) (by omega) (by omega))) ?_
  refine aops_see 7 (.int .i64 0) (see_int (x := (0 + op % (19 - 0 + 1))) (by kernel_rfl) (by omega)) ?_
  refine aops_go 3 60 (by kernel_rfl) ?_
  refine aops_end (by kernel_rfl) (then_normal ?_)
  refine aw_code f6bcc_eq ?_
  refine aw_then ?_
  refine aw_code f6bcca_eq ?_
  refine aw_reg ?_
  refine aops_go 2 60 (by kernel_rfl) ?_
  refine aops_ask 11 (.int .i64 0) 15 #[.int .i64 0] (by kernel_rfl) (by kernel_rfl) (by kernel_rfl) (by kernel_rfl) (by kernel_rfl) ?_
  refine aops_go 1 60 (by kernel_rfl) ?_
  refine aops_end (by kernel_rfl) (then_normal ?_)
  refine aw_code f6bccc_eq ?_
  refine aw_then ?_
  refine aw_code f6bccca_eq ?_
  refine aw_then ?_
  refine aw_code f6bcccaa_eq ?_
  refine aw_reg ?_
  refine aops_go 3 60 (by kernel_rfl) ?_
  refine aops_end (by kernel_rfl) (then_normal ?_)
  refine aw_code f6bcccac_eq ?_
  refine aw_cond (t := false) (by kernel_rfl) ?_
  refine aw_skip (then_normal ?_)
  refine aw_code f6bcccc_eq ?_
  refine aw_then ?_
  refine aw_code f6bcccca_eq ?_
  refine aw_then ?_
  refine aw_code f6bccccaa_eq ?_
  refine aw_reg ?_
  refine aops_go 3 60 (by kernel_rfl) ?_
  refine aops_end (by kernel_rfl) (then_normal ?_)
  refine aw_code f6bccccac_eq ?_
  refine aw_cond (t := false) (by kernel_rfl) ?_
  refine aw_skip (then_normal ?_)
  refine aw_code f6bccccc_eq ?_
  refine aw_then ?_
  refine aw_code f6bccccca_eq ?_
  refine aw_then ?_
  refine aw_code f6bcccccaa_eq ?_
  refine aw_reg ?_
  refine aops_go 3 60 (by kernel_rfl) ?_
  refine aops_end (by kernel_rfl) (then_normal ?_)
  refine aw_code f6bcccccac_eq ?_
  refine aw_cond (t := false) (by kernel_rfl) ?_
  refine aw_skip (then_normal ?_)
  refine aw_code f6bcccccc_eq ?_
  refine aw_then ?_
  refine aw_code f6bcccccca_eq ?_
  refine aw_then ?_
  refine aw_code f6bccccccaa_eq ?_
  refine aw_reg ?_
  refine aops_go 3 60 (by kernel_rfl) ?_
  refine aops_end (by kernel_rfl) (then_normal ?_)
  refine aw_code f6bccccccac_eq ?_
  refine aw_cond (t := false) (by kernel_rfl) ?_
  refine aw_skip (then_normal ?_)
  refine aw_code f6bccccccc_eq ?_
  refine aw_then ?_
  refine aw_code f6bccccccca_eq ?_
  refine aw_reg ?_
  refine aops_go 2 60 (by kernel_rfl) ?_
  refine aops_end (by kernel_rfl) (then_normal ?_)
  refine aw_ret (bodyQ_ret ⟨.agg #[.int .i64 0, .int .i64 0, .int .i64 0, .int .i64 0, .int .u32 0], (by kernel_rfl), ?_⟩)
  rw [ho]; rfl
theorem f6_1 {op rd ra rb im : Int} (hop : i64B op = true) (hrd : i64B rd = true) (hra : i64B ra = true) (hrb : i64B rb = true) (ho : op % 20 = 1) : ACall Tryd.prog T11 6 #[.agg #[.int .i64 op, .int .i64 rd, .int .i64 ra, .int .i64 rb, .int .u32 im]] ⟨.lf, 0⟩ fun r _ => r = .agg #[.int .i64 (op % 20), .int .i64 (pick0 (rdB (op % 20)) (rd % 16)), .int .i64 (pick0 (raB (op % 20)) (ra % 16)), .int .i64 (pick0 (rbB (op % 20)) (rb % 16)), .int .u32 (pick0 (imB (op % 20)) im)] := by
  refine acall_of' 40 (initTm 0 #[.agg #[.int .i64 op, .int .i64 rd, .int .i64 ra, .int .i64 rb, .int .u32 im]]) rfl f6_fn f6_body rfl rfl ?_
  refine aw_code f6b_eq ?_
  refine aw_then ?_
  refine aw_code f6ba_eq ?_
  refine aw_reg ?_
  refine aops_go 2 60 (by kernel_rfl) ?_
  refine aops_end (by kernel_rfl) (then_normal ?_)
  refine aw_code f6bc_eq ?_
  refine aw_then ?_
  refine aw_code f6bca_eq ?_
  refine aw_reg ?_
  refine aops_go 2 60 (by kernel_rfl) ?_
  refine aops_ask 7 (.int .i64 (0 + op % (19 - 0 + 1))) 14 #[.int .i64 op, .int .i64 0, .int .i64 19] (by kernel_rfl) (by kernel_rfl) (by kernel_rfl) (by kernel_rfl) (orc14 op 0 19 (i64_inB hop (by omega) (by omega) (by omega))) ?_
  refine aops_see 7 (.int .i64 1) (see_int (x := (0 + op % (19 - 0 + 1))) (by kernel_rfl) (by omega)) ?_
  refine aops_go 3 60 (by kernel_rfl) ?_
  refine aops_end (by kernel_rfl) (then_normal ?_)
  refine aw_code f6bcc_eq ?_
  refine aw_then ?_
  refine aw_code f6bcca_eq ?_
  refine aw_reg ?_
  refine aops_go 2 60 (by kernel_rfl) ?_
  refine aops_ask 11 (.int .i64 9) 15 #[.int .i64 1] (by kernel_rfl) (by kernel_rfl) (by kernel_rfl) (by kernel_rfl) (by kernel_rfl) ?_
  refine aops_go 1 60 (by kernel_rfl) ?_
  refine aops_end (by kernel_rfl) (then_normal ?_)
  refine aw_code f6bccc_eq ?_
  refine aw_then ?_
  refine aw_code f6bccca_eq ?_
  refine aw_then ?_
  refine aw_code f6bcccaa_eq ?_
  refine aw_reg ?_
  refine aops_go 3 60 (by kernel_rfl) ?_
  refine aops_end (by kernel_rfl) (then_normal ?_)
  refine aw_code f6bcccac_eq ?_
  refine aw_cond (t := true) (by kernel_rfl) ?_
  refine aw_code f6bcccaca_eq ?_
  refine aw_reg ?_
  refine aops_go 2 60 (by kernel_rfl) ?_
  refine aops_ask 17 (.int .i64 (0 + rd % (15 - 0 + 1))) 14 #[.int .i64 rd, .int .i64 0, .int .i64 15] (by kernel_rfl) (by kernel_rfl) (by kernel_rfl) (by kernel_rfl) (orc14 rd 0 15 (i64_inB hrd (by omega) (by omega) (by omega))) ?_
  refine aops_see 17 (.int .i64 (rd % 16)) (see_int (x := (0 + rd % (15 - 0 + 1))) (by kernel_rfl) (by rw [show ((15 : Int) - 0 + 1) = 16 from rfl]; omega)) ?_
  refine aops_go 2 60 (by kernel_rfl) ?_
  refine aops_end (by kernel_rfl) (then_normal ?_)
  refine aw_code f6bcccc_eq ?_
  refine aw_then ?_
  refine aw_code f6bcccca_eq ?_
  refine aw_then ?_
  refine aw_code f6bccccaa_eq ?_
  refine aw_reg ?_
  refine aops_go 3 60 (by kernel_rfl) ?_
  refine aops_end (by kernel_rfl) (then_normal ?_)
  refine aw_code f6bccccac_eq ?_
  refine aw_cond (t := false) (by kernel_rfl) ?_
  refine aw_skip (then_normal ?_)
  refine aw_code f6bccccc_eq ?_
  refine aw_then ?_
  refine aw_code f6bccccca_eq ?_
  refine aw_then ?_
  refine aw_code f6bcccccaa_eq ?_
  refine aw_reg ?_
  refine aops_go 3 60 (by kernel_rfl) ?_
  refine aops_end (by kernel_rfl) (then_normal ?_)
  refine aw_code f6bcccccac_eq ?_
  refine aw_cond (t := false) (by kernel_rfl) ?_
  refine aw_skip (then_normal ?_)
  refine aw_code f6bcccccc_eq ?_
  refine aw_then ?_
  refine aw_code f6bcccccca_eq ?_
  refine aw_then ?_
  refine aw_code f6bccccccaa_eq ?_
  refine aw_reg ?_
  refine aops_go 3 60 (by kernel_rfl) ?_
  refine aops_end (by kernel_rfl) (then_normal ?_)
  refine aw_code f6bccccccac_eq ?_
  refine aw_cond (t := true) (by kernel_rfl) ?_
  refine aw_code f6bccccccaca_eq ?_
  refine aw_reg ?_
  refine aops_go 4 60 (by kernel_rfl) ?_
  refine aops_end (by kernel_rfl) (then_normal ?_)
  refine aw_code f6bccccccc_eq ?_
  refine aw_then ?_
  refine aw_code f6bccccccca_eq ?_
  refine aw_reg ?_
  refine aops_go 2 60 (by kernel_rfl) ?_
  refine aops_end (by kernel_rfl) (then_normal ?_)
  refine aw_ret (bodyQ_ret ⟨.agg #[.int .i64 1, .int .i64 (rd % 16), .int .i64 0, .int .i64 0, .int .u32 im], (by kernel_rfl), ?_⟩)
  rw [ho]; rfl
theorem f6_2 {op rd ra rb im : Int} (hop : i64B op = true) (hrd : i64B rd = true) (hra : i64B ra = true) (hrb : i64B rb = true) (ho : op % 20 = 2) : ACall Tryd.prog T11 6 #[.agg #[.int .i64 op, .int .i64 rd, .int .i64 ra, .int .i64 rb, .int .u32 im]] ⟨.lf, 0⟩ fun r _ => r = .agg #[.int .i64 (op % 20), .int .i64 (pick0 (rdB (op % 20)) (rd % 16)), .int .i64 (pick0 (raB (op % 20)) (ra % 16)), .int .i64 (pick0 (rbB (op % 20)) (rb % 16)), .int .u32 (pick0 (imB (op % 20)) im)] := by
  refine acall_of' 40 (initTm 0 #[.agg #[.int .i64 op, .int .i64 rd, .int .i64 ra, .int .i64 rb, .int .u32 im]]) rfl f6_fn f6_body rfl rfl ?_
  refine aw_code f6b_eq ?_
  refine aw_then ?_
  refine aw_code f6ba_eq ?_
  refine aw_reg ?_
  refine aops_go 2 60 (by kernel_rfl) ?_
  refine aops_end (by kernel_rfl) (then_normal ?_)
  refine aw_code f6bc_eq ?_
  refine aw_then ?_
  refine aw_code f6bca_eq ?_
  refine aw_reg ?_
  refine aops_go 2 60 (by kernel_rfl) ?_
  refine aops_ask 7 (.int .i64 (0 + op % (19 - 0 + 1))) 14 #[.int .i64 op, .int .i64 0, .int .i64 19] (by kernel_rfl) (by kernel_rfl) (by kernel_rfl) (by kernel_rfl) (orc14 op 0 19 (i64_inB hop (by omega) (by omega) (by omega))) ?_
  refine aops_see 7 (.int .i64 2) (see_int (x := (0 + op % (19 - 0 + 1))) (by kernel_rfl) (by omega)) ?_
  refine aops_go 3 60 (by kernel_rfl) ?_
  refine aops_end (by kernel_rfl) (then_normal ?_)
  refine aw_code f6bcc_eq ?_
  refine aw_then ?_
  refine aw_code f6bcca_eq ?_
  refine aw_reg ?_
  refine aops_go 2 60 (by kernel_rfl) ?_
  refine aops_ask 11 (.int .i64 3) 15 #[.int .i64 2] (by kernel_rfl) (by kernel_rfl) (by kernel_rfl) (by kernel_rfl) (by kernel_rfl) ?_
  refine aops_go 1 60 (by kernel_rfl) ?_
  refine aops_end (by kernel_rfl) (then_normal ?_)
  refine aw_code f6bccc_eq ?_
  refine aw_then ?_
  refine aw_code f6bccca_eq ?_
  refine aw_then ?_
  refine aw_code f6bcccaa_eq ?_
  refine aw_reg ?_
  refine aops_go 3 60 (by kernel_rfl) ?_
  refine aops_end (by kernel_rfl) (then_normal ?_)
  refine aw_code f6bcccac_eq ?_
  refine aw_cond (t := true) (by kernel_rfl) ?_
  refine aw_code f6bcccaca_eq ?_
  refine aw_reg ?_
  refine aops_go 2 60 (by kernel_rfl) ?_
  refine aops_ask 17 (.int .i64 (0 + rd % (15 - 0 + 1))) 14 #[.int .i64 rd, .int .i64 0, .int .i64 15] (by kernel_rfl) (by kernel_rfl) (by kernel_rfl) (by kernel_rfl) (orc14 rd 0 15 (i64_inB hrd (by omega) (by omega) (by omega))) ?_
  refine aops_see 17 (.int .i64 (rd % 16)) (see_int (x := (0 + rd % (15 - 0 + 1))) (by kernel_rfl) (by rw [show ((15 : Int) - 0 + 1) = 16 from rfl]; omega)) ?_
  refine aops_go 2 60 (by kernel_rfl) ?_
  refine aops_end (by kernel_rfl) (then_normal ?_)
  refine aw_code f6bcccc_eq ?_
  refine aw_then ?_
  refine aw_code f6bcccca_eq ?_
  refine aw_then ?_
  refine aw_code f6bccccaa_eq ?_
  refine aw_reg ?_
  refine aops_go 3 60 (by kernel_rfl) ?_
  refine aops_end (by kernel_rfl) (then_normal ?_)
  refine aw_code f6bccccac_eq ?_
  refine aw_cond (t := true) (by kernel_rfl) ?_
  refine aw_code f6bccccaca_eq ?_
  refine aw_reg ?_
  refine aops_go 2 60 (by kernel_rfl) ?_
  refine aops_ask 24 (.int .i64 (0 + ra % (15 - 0 + 1))) 14 #[.int .i64 ra, .int .i64 0, .int .i64 15] (by kernel_rfl) (by kernel_rfl) (by kernel_rfl) (by kernel_rfl) (orc14 ra 0 15 (i64_inB hra (by omega) (by omega) (by omega))) ?_
  refine aops_see 24 (.int .i64 (ra % 16)) (see_int (x := (0 + ra % (15 - 0 + 1))) (by kernel_rfl) (by rw [show ((15 : Int) - 0 + 1) = 16 from rfl]; omega)) ?_
  refine aops_go 2 60 (by kernel_rfl) ?_
  refine aops_end (by kernel_rfl) (then_normal ?_)
  refine aw_code f6bccccc_eq ?_
  refine aw_then ?_
  refine aw_code f6bccccca_eq ?_
  refine aw_then ?_
  refine aw_code f6bcccccaa_eq ?_
  refine aw_reg ?_
  refine aops_go 3 60 (by kernel_rfl) ?_
  refine aops_end (by kernel_rfl) (then_normal ?_)
  refine aw_code f6bcccccac_eq ?_
  refine aw_cond (t := false) (by kernel_rfl) ?_
  refine aw_skip (then_normal ?_)
  refine aw_code f6bcccccc_eq ?_
  refine aw_then ?_
  refine aw_code f6bcccccca_eq ?_
  refine aw_then ?_
  refine aw_code f6bccccccaa_eq ?_
  refine aw_reg ?_
  refine aops_go 3 60 (by kernel_rfl) ?_
  refine aops_end (by kernel_rfl) (then_normal ?_)
  refine aw_code f6bccccccac_eq ?_
  refine aw_cond (t := false) (by kernel_rfl) ?_
  refine aw_skip (then_normal ?_)
  refine aw_code f6bccccccc_eq ?_
  refine aw_then ?_
  refine aw_code f6bccccccca_eq ?_
  refine aw_reg ?_
  refine aops_go 2 60 (by kernel_rfl) ?_
  refine aops_end (by kernel_rfl) (then_normal ?_)
  refine aw_ret (bodyQ_ret ⟨.agg #[.int .i64 2, .int .i64 (rd % 16), .int .i64 (ra % 16), .int .i64 0, .int .u32 0], (by kernel_rfl), ?_⟩)
  rw [ho]; rfl
theorem f6_3 {op rd ra rb im : Int} (hop : i64B op = true) (hrd : i64B rd = true) (hra : i64B ra = true) (hrb : i64B rb = true) (ho : op % 20 = 3) : ACall Tryd.prog T11 6 #[.agg #[.int .i64 op, .int .i64 rd, .int .i64 ra, .int .i64 rb, .int .u32 im]] ⟨.lf, 0⟩ fun r _ => r = .agg #[.int .i64 (op % 20), .int .i64 (pick0 (rdB (op % 20)) (rd % 16)), .int .i64 (pick0 (raB (op % 20)) (ra % 16)), .int .i64 (pick0 (rbB (op % 20)) (rb % 16)), .int .u32 (pick0 (imB (op % 20)) im)] := by
  refine acall_of' 40 (initTm 0 #[.agg #[.int .i64 op, .int .i64 rd, .int .i64 ra, .int .i64 rb, .int .u32 im]]) rfl f6_fn f6_body rfl rfl ?_
  refine aw_code f6b_eq ?_
  refine aw_then ?_
  refine aw_code f6ba_eq ?_
  refine aw_reg ?_
  refine aops_go 2 60 (by kernel_rfl) ?_
  refine aops_end (by kernel_rfl) (then_normal ?_)
  refine aw_code f6bc_eq ?_
  refine aw_then ?_
  refine aw_code f6bca_eq ?_
  refine aw_reg ?_
  refine aops_go 2 60 (by kernel_rfl) ?_
  refine aops_ask 7 (.int .i64 (0 + op % (19 - 0 + 1))) 14 #[.int .i64 op, .int .i64 0, .int .i64 19] (by kernel_rfl) (by kernel_rfl) (by kernel_rfl) (by kernel_rfl) (orc14 op 0 19 (i64_inB hop (by omega) (by omega) (by omega))) ?_
  refine aops_see 7 (.int .i64 3) (see_int (x := (0 + op % (19 - 0 + 1))) (by kernel_rfl) (by omega)) ?_
  refine aops_go 3 60 (by kernel_rfl) ?_
  refine aops_end (by kernel_rfl) (then_normal ?_)
  refine aw_code f6bcc_eq ?_
  refine aw_then ?_
  refine aw_code f6bcca_eq ?_
  refine aw_reg ?_
  refine aops_go 2 60 (by kernel_rfl) ?_
  refine aops_ask 11 (.int .i64 7) 15 #[.int .i64 3] (by kernel_rfl) (by kernel_rfl) (by kernel_rfl) (by kernel_rfl) (by kernel_rfl) ?_
  refine aops_go 1 60 (by kernel_rfl) ?_
  refine aops_end (by kernel_rfl) (then_normal ?_)
  refine aw_code f6bccc_eq ?_
  refine aw_then ?_
  refine aw_code f6bccca_eq ?_
  refine aw_then ?_
  refine aw_code f6bcccaa_eq ?_
  refine aw_reg ?_
  refine aops_go 3 60 (by kernel_rfl) ?_
  refine aops_end (by kernel_rfl) (then_normal ?_)
  refine aw_code f6bcccac_eq ?_
  refine aw_cond (t := true) (by kernel_rfl) ?_
  refine aw_code f6bcccaca_eq ?_
  refine aw_reg ?_
  refine aops_go 2 60 (by kernel_rfl) ?_
  refine aops_ask 17 (.int .i64 (0 + rd % (15 - 0 + 1))) 14 #[.int .i64 rd, .int .i64 0, .int .i64 15] (by kernel_rfl) (by kernel_rfl) (by kernel_rfl) (by kernel_rfl) (orc14 rd 0 15 (i64_inB hrd (by omega) (by omega) (by omega))) ?_
  refine aops_see 17 (.int .i64 (rd % 16)) (see_int (x := (0 + rd % (15 - 0 + 1))) (by kernel_rfl) (by rw [show ((15 : Int) - 0 + 1) = 16 from rfl]; omega)) ?_
  refine aops_go 2 60 (by kernel_rfl) ?_
  refine aops_end (by kernel_rfl) (then_normal ?_)
  refine aw_code f6bcccc_eq ?_
  refine aw_then ?_
  refine aw_code f6bcccca_eq ?_
  refine aw_then ?_
  refine aw_code f6bccccaa_eq ?_
  refine aw_reg ?_
  refine aops_go 3 60 (by kernel_rfl) ?_
  refine aops_end (by kernel_rfl) (then_normal ?_)
  refine aw_code f6bccccac_eq ?_
  refine aw_cond (t := true) (by kernel_rfl) ?_
  refine aw_code f6bccccaca_eq ?_
  refine aw_reg ?_
  refine aops_go 2 60 (by kernel_rfl) ?_
  refine aops_ask 24 (.int .i64 (0 + ra % (15 - 0 + 1))) 14 #[.int .i64 ra, .int .i64 0, .int .i64 15] (by kernel_rfl) (by kernel_rfl) (by kernel_rfl) (by kernel_rfl) (orc14 ra 0 15 (i64_inB hra (by omega) (by omega) (by omega))) ?_
  refine aops_see 24 (.int .i64 (ra % 16)) (see_int (x := (0 + ra % (15 - 0 + 1))) (by kernel_rfl) (by rw [show ((15 : Int) - 0 + 1) = 16 from rfl]; omega)) ?_
  refine aops_go 2 60 (by kernel_rfl) ?_
  refine aops_end (by kernel_rfl) (then_normal ?_)
  refine aw_code f6bccccc_eq ?_
  refine aw_then ?_
  refine aw_code f6bccccca_eq ?_
  refine aw_then ?_
  refine aw_code f6bcccccaa_eq ?_
  refine aw_reg ?_
  refine aops_go 3 60 (by kernel_rfl) ?_
  refine aops_end (by kernel_rfl) (then_normal ?_)
  refine aw_code f6bcccccac_eq ?_
  refine aw_cond (t := true) (by kernel_rfl) ?_
  refine aw_code f6bcccccaca_eq ?_
  refine aw_reg ?_
  refine aops_go 2 60 (by kernel_rfl) ?_
  refine aops_ask 31 (.int .i64 (0 + rb % (15 - 0 + 1))) 14 #[.int .i64 rb, .int .i64 0, .int .i64 15] (by kernel_rfl) (by kernel_rfl) (by kernel_rfl) (by kernel_rfl) (orc14 rb 0 15 (i64_inB hrb (by omega) (by omega) (by omega))) ?_
  refine aops_see 31 (.int .i64 (rb % 16)) (see_int (x := (0 + rb % (15 - 0 + 1))) (by kernel_rfl) (by rw [show ((15 : Int) - 0 + 1) = 16 from rfl]; omega)) ?_
  refine aops_go 2 60 (by kernel_rfl) ?_
  refine aops_end (by kernel_rfl) (then_normal ?_)
  refine aw_code f6bcccccc_eq ?_
  refine aw_then ?_
  refine aw_code f6bcccccca_eq ?_
  refine aw_then ?_
  refine aw_code f6bccccccaa_eq ?_
  refine aw_reg ?_
  refine aops_go 3 60 (by kernel_rfl) ?_
  refine aops_end (by kernel_rfl) (then_normal ?_)
  refine aw_code f6bccccccac_eq ?_
  refine aw_cond (t := false) (by kernel_rfl) ?_
  refine aw_skip (then_normal ?_)
  refine aw_code f6bccccccc_eq ?_
  refine aw_then ?_
  refine aw_code f6bccccccca_eq ?_
  refine aw_reg ?_
  refine aops_go 2 60 (by kernel_rfl) ?_
  refine aops_end (by kernel_rfl) (then_normal ?_)
  refine aw_ret (bodyQ_ret ⟨.agg #[.int .i64 3, .int .i64 (rd % 16), .int .i64 (ra % 16), .int .i64 (rb % 16), .int .u32 0], (by kernel_rfl), ?_⟩)
  rw [ho]; rfl
theorem f6_4 {op rd ra rb im : Int} (hop : i64B op = true) (hrd : i64B rd = true) (hra : i64B ra = true) (hrb : i64B rb = true) (ho : op % 20 = 4) : ACall Tryd.prog T11 6 #[.agg #[.int .i64 op, .int .i64 rd, .int .i64 ra, .int .i64 rb, .int .u32 im]] ⟨.lf, 0⟩ fun r _ => r = .agg #[.int .i64 (op % 20), .int .i64 (pick0 (rdB (op % 20)) (rd % 16)), .int .i64 (pick0 (raB (op % 20)) (ra % 16)), .int .i64 (pick0 (rbB (op % 20)) (rb % 16)), .int .u32 (pick0 (imB (op % 20)) im)] := by
  refine acall_of' 40 (initTm 0 #[.agg #[.int .i64 op, .int .i64 rd, .int .i64 ra, .int .i64 rb, .int .u32 im]]) rfl f6_fn f6_body rfl rfl ?_
  refine aw_code f6b_eq ?_
  refine aw_then ?_
  refine aw_code f6ba_eq ?_
  refine aw_reg ?_
  refine aops_go 2 60 (by kernel_rfl) ?_
  refine aops_end (by kernel_rfl) (then_normal ?_)
  refine aw_code f6bc_eq ?_
  refine aw_then ?_
  refine aw_code f6bca_eq ?_
  refine aw_reg ?_
  refine aops_go 2 60 (by kernel_rfl) ?_
  refine aops_ask 7 (.int .i64 (0 + op % (19 - 0 + 1))) 14 #[.int .i64 op, .int .i64 0, .int .i64 19] (by kernel_rfl) (by kernel_rfl) (by kernel_rfl) (by kernel_rfl) (orc14 op 0 19 (i64_inB hop (by omega) (by omega) (by omega))) ?_
  refine aops_see 7 (.int .i64 4) (see_int (x := (0 + op % (19 - 0 + 1))) (by kernel_rfl) (by omega)) ?_
  refine aops_go 3 60 (by kernel_rfl) ?_
  refine aops_end (by kernel_rfl) (then_normal ?_)
  refine aw_code f6bcc_eq ?_
  refine aw_then ?_
  refine aw_code f6bcca_eq ?_
  refine aw_reg ?_
  refine aops_go 2 60 (by kernel_rfl) ?_
  refine aops_ask 11 (.int .i64 7) 15 #[.int .i64 4] (by kernel_rfl) (by kernel_rfl) (by kernel_rfl) (by kernel_rfl) (by kernel_rfl) ?_
  refine aops_go 1 60 (by kernel_rfl) ?_
  refine aops_end (by kernel_rfl) (then_normal ?_)
  refine aw_code f6bccc_eq ?_
  refine aw_then ?_
  refine aw_code f6bccca_eq ?_
  refine aw_then ?_
  refine aw_code f6bcccaa_eq ?_
  refine aw_reg ?_
  refine aops_go 3 60 (by kernel_rfl) ?_
  refine aops_end (by kernel_rfl) (then_normal ?_)
  refine aw_code f6bcccac_eq ?_
  refine aw_cond (t := true) (by kernel_rfl) ?_
  refine aw_code f6bcccaca_eq ?_
  refine aw_reg ?_
  refine aops_go 2 60 (by kernel_rfl) ?_
  refine aops_ask 17 (.int .i64 (0 + rd % (15 - 0 + 1))) 14 #[.int .i64 rd, .int .i64 0, .int .i64 15] (by kernel_rfl) (by kernel_rfl) (by kernel_rfl) (by kernel_rfl) (orc14 rd 0 15 (i64_inB hrd (by omega) (by omega) (by omega))) ?_
  refine aops_see 17 (.int .i64 (rd % 16)) (see_int (x := (0 + rd % (15 - 0 + 1))) (by kernel_rfl) (by rw [show ((15 : Int) - 0 + 1) = 16 from rfl]; omega)) ?_
  refine aops_go 2 60 (by kernel_rfl) ?_
  refine aops_end (by kernel_rfl) (then_normal ?_)
  refine aw_code f6bcccc_eq ?_
  refine aw_then ?_
  refine aw_code f6bcccca_eq ?_
  refine aw_then ?_
  refine aw_code f6bccccaa_eq ?_
  refine aw_reg ?_
  refine aops_go 3 60 (by kernel_rfl) ?_
  refine aops_end (by kernel_rfl) (then_normal ?_)
  refine aw_code f6bccccac_eq ?_
  refine aw_cond (t := true) (by kernel_rfl) ?_
  refine aw_code f6bccccaca_eq ?_
  refine aw_reg ?_
  refine aops_go 2 60 (by kernel_rfl) ?_
  refine aops_ask 24 (.int .i64 (0 + ra % (15 - 0 + 1))) 14 #[.int .i64 ra, .int .i64 0, .int .i64 15] (by kernel_rfl) (by kernel_rfl) (by kernel_rfl) (by kernel_rfl) (orc14 ra 0 15 (i64_inB hra (by omega) (by omega) (by omega))) ?_
  refine aops_see 24 (.int .i64 (ra % 16)) (see_int (x := (0 + ra % (15 - 0 + 1))) (by kernel_rfl) (by rw [show ((15 : Int) - 0 + 1) = 16 from rfl]; omega)) ?_
  refine aops_go 2 60 (by kernel_rfl) ?_
  refine aops_end (by kernel_rfl) (then_normal ?_)
  refine aw_code f6bccccc_eq ?_
  refine aw_then ?_
  refine aw_code f6bccccca_eq ?_
  refine aw_then ?_
  refine aw_code f6bcccccaa_eq ?_
  refine aw_reg ?_
  refine aops_go 3 60 (by kernel_rfl) ?_
  refine aops_end (by kernel_rfl) (then_normal ?_)
  refine aw_code f6bcccccac_eq ?_
  refine aw_cond (t := true) (by kernel_rfl) ?_
  refine aw_code f6bcccccaca_eq ?_
  refine aw_reg ?_
  refine aops_go 2 60 (by kernel_rfl) ?_
  refine aops_ask 31 (.int .i64 (0 + rb % (15 - 0 + 1))) 14 #[.int .i64 rb, .int .i64 0, .int .i64 15] (by kernel_rfl) (by kernel_rfl) (by kernel_rfl) (by kernel_rfl) (orc14 rb 0 15 (i64_inB hrb (by omega) (by omega) (by omega))) ?_
  refine aops_see 31 (.int .i64 (rb % 16)) (see_int (x := (0 + rb % (15 - 0 + 1))) (by kernel_rfl) (by rw [show ((15 : Int) - 0 + 1) = 16 from rfl]; omega)) ?_
  refine aops_go 2 60 (by kernel_rfl) ?_
  refine aops_end (by kernel_rfl) (then_normal ?_)
  refine aw_code f6bcccccc_eq ?_
  refine aw_then ?_
  refine aw_code f6bcccccca_eq ?_
  refine aw_then ?_
  refine aw_code f6bccccccaa_eq ?_
  refine aw_reg ?_
  refine aops_go 3 60 (by kernel_rfl) ?_
  refine aops_end (by kernel_rfl) (then_normal ?_)
  refine aw_code f6bccccccac_eq ?_
  refine aw_cond (t := false) (by kernel_rfl) ?_
  refine aw_skip (then_normal ?_)
  refine aw_code f6bccccccc_eq ?_
  refine aw_then ?_
  refine aw_code f6bccccccca_eq ?_
  refine aw_reg ?_
  refine aops_go 2 60 (by kernel_rfl) ?_
  refine aops_end (by kernel_rfl) (then_normal ?_)
  refine aw_ret (bodyQ_ret ⟨.agg #[.int .i64 4, .int .i64 (rd % 16), .int .i64 (ra % 16), .int .i64 (rb % 16), .int .u32 0], (by kernel_rfl), ?_⟩)
  rw [ho]; rfl
theorem f6_5 {op rd ra rb im : Int} (hop : i64B op = true) (hrd : i64B rd = true) (hra : i64B ra = true) (hrb : i64B rb = true) (ho : op % 20 = 5) : ACall Tryd.prog T11 6 #[.agg #[.int .i64 op, .int .i64 rd, .int .i64 ra, .int .i64 rb, .int .u32 im]] ⟨.lf, 0⟩ fun r _ => r = .agg #[.int .i64 (op % 20), .int .i64 (pick0 (rdB (op % 20)) (rd % 16)), .int .i64 (pick0 (raB (op % 20)) (ra % 16)), .int .i64 (pick0 (rbB (op % 20)) (rb % 16)), .int .u32 (pick0 (imB (op % 20)) im)] := by
  refine acall_of' 40 (initTm 0 #[.agg #[.int .i64 op, .int .i64 rd, .int .i64 ra, .int .i64 rb, .int .u32 im]]) rfl f6_fn f6_body rfl rfl ?_
  refine aw_code f6b_eq ?_
  refine aw_then ?_
  refine aw_code f6ba_eq ?_
  refine aw_reg ?_
  refine aops_go 2 60 (by kernel_rfl) ?_
  refine aops_end (by kernel_rfl) (then_normal ?_)
  refine aw_code f6bc_eq ?_
  refine aw_then ?_
  refine aw_code f6bca_eq ?_
  refine aw_reg ?_
  refine aops_go 2 60 (by kernel_rfl) ?_
  refine aops_ask 7 (.int .i64 (0 + op % (19 - 0 + 1))) 14 #[.int .i64 op, .int .i64 0, .int .i64 19] (by kernel_rfl) (by kernel_rfl) (by kernel_rfl) (by kernel_rfl) (orc14 op 0 19 (i64_inB hop (by omega) (by omega) (by omega))) ?_
  refine aops_see 7 (.int .i64 5) (see_int (x := (0 + op % (19 - 0 + 1))) (by kernel_rfl) (by omega)) ?_
  refine aops_go 3 60 (by kernel_rfl) ?_
  refine aops_end (by kernel_rfl) (then_normal ?_)
  refine aw_code f6bcc_eq ?_
  refine aw_then ?_
  refine aw_code f6bcca_eq ?_
  refine aw_reg ?_
  refine aops_go 2 60 (by kernel_rfl) ?_
  refine aops_ask 11 (.int .i64 7) 15 #[.int .i64 5] (by kernel_rfl) (by kernel_rfl) (by kernel_rfl) (by kernel_rfl) (by kernel_rfl) ?_
  refine aops_go 1 60 (by kernel_rfl) ?_
  refine aops_end (by kernel_rfl) (then_normal ?_)
  refine aw_code f6bccc_eq ?_
  refine aw_then ?_
  refine aw_code f6bccca_eq ?_
  refine aw_then ?_
  refine aw_code f6bcccaa_eq ?_
  refine aw_reg ?_
  refine aops_go 3 60 (by kernel_rfl) ?_
  refine aops_end (by kernel_rfl) (then_normal ?_)
  refine aw_code f6bcccac_eq ?_
  refine aw_cond (t := true) (by kernel_rfl) ?_
  refine aw_code f6bcccaca_eq ?_
  refine aw_reg ?_
  refine aops_go 2 60 (by kernel_rfl) ?_
  refine aops_ask 17 (.int .i64 (0 + rd % (15 - 0 + 1))) 14 #[.int .i64 rd, .int .i64 0, .int .i64 15] (by kernel_rfl) (by kernel_rfl) (by kernel_rfl) (by kernel_rfl) (orc14 rd 0 15 (i64_inB hrd (by omega) (by omega) (by omega))) ?_
  refine aops_see 17 (.int .i64 (rd % 16)) (see_int (x := (0 + rd % (15 - 0 + 1))) (by kernel_rfl) (by rw [show ((15 : Int) - 0 + 1) = 16 from rfl]; omega)) ?_
  refine aops_go 2 60 (by kernel_rfl) ?_
  refine aops_end (by kernel_rfl) (then_normal ?_)
  refine aw_code f6bcccc_eq ?_
  refine aw_then ?_
  refine aw_code f6bcccca_eq ?_
  refine aw_then ?_
  refine aw_code f6bccccaa_eq ?_
  refine aw_reg ?_
  refine aops_go 3 60 (by kernel_rfl) ?_
  refine aops_end (by kernel_rfl) (then_normal ?_)
  refine aw_code f6bccccac_eq ?_
  refine aw_cond (t := true) (by kernel_rfl) ?_
  refine aw_code f6bccccaca_eq ?_
  refine aw_reg ?_
  refine aops_go 2 60 (by kernel_rfl) ?_
  refine aops_ask 24 (.int .i64 (0 + ra % (15 - 0 + 1))) 14 #[.int .i64 ra, .int .i64 0, .int .i64 15] (by kernel_rfl) (by kernel_rfl) (by kernel_rfl) (by kernel_rfl) (orc14 ra 0 15 (i64_inB hra (by omega) (by omega) (by omega))) ?_
  refine aops_see 24 (.int .i64 (ra % 16)) (see_int (x := (0 + ra % (15 - 0 + 1))) (by kernel_rfl) (by rw [show ((15 : Int) - 0 + 1) = 16 from rfl]; omega)) ?_
  refine aops_go 2 60 (by kernel_rfl) ?_
  refine aops_end (by kernel_rfl) (then_normal ?_)
  refine aw_code f6bccccc_eq ?_
  refine aw_then ?_
  refine aw_code f6bccccca_eq ?_
  refine aw_then ?_
  refine aw_code f6bcccccaa_eq ?_
  refine aw_reg ?_
  refine aops_go 3 60 (by kernel_rfl) ?_
  refine aops_end (by kernel_rfl) (then_normal ?_)
  refine aw_code f6bcccccac_eq ?_
  refine aw_cond (t := true) (by kernel_rfl) ?_
  refine aw_code f6bcccccaca_eq ?_
  refine aw_reg ?_
  refine aops_go 2 60 (by kernel_rfl) ?_
  refine aops_ask 31 (.int .i64 (0 + rb % (15 - 0 + 1))) 14 #[.int .i64 rb, .int .i64 0, .int .i64 15] (by kernel_rfl) (by kernel_rfl) (by kernel_rfl) (by kernel_rfl) (orc14 rb 0 15 (i64_inB hrb (by omega) (by omega) (by omega))) ?_
  refine aops_see 31 (.int .i64 (rb % 16)) (see_int (x := (0 + rb % (15 - 0 + 1))) (by kernel_rfl) (by rw [show ((15 : Int) - 0 + 1) = 16 from rfl]; omega)) ?_
  refine aops_go 2 60 (by kernel_rfl) ?_
  refine aops_end (by kernel_rfl) (then_normal ?_)
  refine aw_code f6bcccccc_eq ?_
  refine aw_then ?_
  refine aw_code f6bcccccca_eq ?_
  refine aw_then ?_
  refine aw_code f6bccccccaa_eq ?_
  refine aw_reg ?_
  refine aops_go 3 60 (by kernel_rfl) ?_
  refine aops_end (by kernel_rfl) (then_normal ?_)
  refine aw_code f6bccccccac_eq ?_
  refine aw_cond (t := false) (by kernel_rfl) ?_
  refine aw_skip (then_normal ?_)
  refine aw_code f6bccccccc_eq ?_
  refine aw_then ?_
  refine aw_code f6bccccccca_eq ?_
  refine aw_reg ?_
  refine aops_go 2 60 (by kernel_rfl) ?_
  refine aops_end (by kernel_rfl) (then_normal ?_)
  refine aw_ret (bodyQ_ret ⟨.agg #[.int .i64 5, .int .i64 (rd % 16), .int .i64 (ra % 16), .int .i64 (rb % 16), .int .u32 0], (by kernel_rfl), ?_⟩)
  rw [ho]; rfl
theorem f6_6 {op rd ra rb im : Int} (hop : i64B op = true) (hrd : i64B rd = true) (hra : i64B ra = true) (hrb : i64B rb = true) (ho : op % 20 = 6) : ACall Tryd.prog T11 6 #[.agg #[.int .i64 op, .int .i64 rd, .int .i64 ra, .int .i64 rb, .int .u32 im]] ⟨.lf, 0⟩ fun r _ => r = .agg #[.int .i64 (op % 20), .int .i64 (pick0 (rdB (op % 20)) (rd % 16)), .int .i64 (pick0 (raB (op % 20)) (ra % 16)), .int .i64 (pick0 (rbB (op % 20)) (rb % 16)), .int .u32 (pick0 (imB (op % 20)) im)] := by
  refine acall_of' 40 (initTm 0 #[.agg #[.int .i64 op, .int .i64 rd, .int .i64 ra, .int .i64 rb, .int .u32 im]]) rfl f6_fn f6_body rfl rfl ?_
  refine aw_code f6b_eq ?_
  refine aw_then ?_
  refine aw_code f6ba_eq ?_
  refine aw_reg ?_
  refine aops_go 2 60 (by kernel_rfl) ?_
  refine aops_end (by kernel_rfl) (then_normal ?_)
  refine aw_code f6bc_eq ?_
  refine aw_then ?_
  refine aw_code f6bca_eq ?_
  refine aw_reg ?_
  refine aops_go 2 60 (by kernel_rfl) ?_
  refine aops_ask 7 (.int .i64 (0 + op % (19 - 0 + 1))) 14 #[.int .i64 op, .int .i64 0, .int .i64 19] (by kernel_rfl) (by kernel_rfl) (by kernel_rfl) (by kernel_rfl) (orc14 op 0 19 (i64_inB hop (by omega) (by omega) (by omega))) ?_
  refine aops_see 7 (.int .i64 6) (see_int (x := (0 + op % (19 - 0 + 1))) (by kernel_rfl) (by omega)) ?_
  refine aops_go 3 60 (by kernel_rfl) ?_
  refine aops_end (by kernel_rfl) (then_normal ?_)
  refine aw_code f6bcc_eq ?_
  refine aw_then ?_
  refine aw_code f6bcca_eq ?_
  refine aw_reg ?_
  refine aops_go 2 60 (by kernel_rfl) ?_
  refine aops_ask 11 (.int .i64 7) 15 #[.int .i64 6] (by kernel_rfl) (by kernel_rfl) (by kernel_rfl) (by kernel_rfl) (by kernel_rfl) ?_
  refine aops_go 1 60 (by kernel_rfl) ?_
  refine aops_end (by kernel_rfl) (then_normal ?_)
  refine aw_code f6bccc_eq ?_
  refine aw_then ?_
  refine aw_code f6bccca_eq ?_
  refine aw_then ?_
  refine aw_code f6bcccaa_eq ?_
  refine aw_reg ?_
  refine aops_go 3 60 (by kernel_rfl) ?_
  refine aops_end (by kernel_rfl) (then_normal ?_)
  refine aw_code f6bcccac_eq ?_
  refine aw_cond (t := true) (by kernel_rfl) ?_
  refine aw_code f6bcccaca_eq ?_
  refine aw_reg ?_
  refine aops_go 2 60 (by kernel_rfl) ?_
  refine aops_ask 17 (.int .i64 (0 + rd % (15 - 0 + 1))) 14 #[.int .i64 rd, .int .i64 0, .int .i64 15] (by kernel_rfl) (by kernel_rfl) (by kernel_rfl) (by kernel_rfl) (orc14 rd 0 15 (i64_inB hrd (by omega) (by omega) (by omega))) ?_
  refine aops_see 17 (.int .i64 (rd % 16)) (see_int (x := (0 + rd % (15 - 0 + 1))) (by kernel_rfl) (by rw [show ((15 : Int) - 0 + 1) = 16 from rfl]; omega)) ?_
  refine aops_go 2 60 (by kernel_rfl) ?_
  refine aops_end (by kernel_rfl) (then_normal ?_)
  refine aw_code f6bcccc_eq ?_
  refine aw_then ?_
  refine aw_code f6bcccca_eq ?_
  refine aw_then ?_
  refine aw_code f6bccccaa_eq ?_
  refine aw_reg ?_
  refine aops_go 3 60 (by kernel_rfl) ?_
  refine aops_end (by kernel_rfl) (then_normal ?_)
  refine aw_code f6bccccac_eq ?_
  refine aw_cond (t := true) (by kernel_rfl) ?_
  refine aw_code f6bccccaca_eq ?_
  refine aw_reg ?_
  refine aops_go 2 60 (by kernel_rfl) ?_
  refine aops_ask 24 (.int .i64 (0 + ra % (15 - 0 + 1))) 14 #[.int .i64 ra, .int .i64 0, .int .i64 15] (by kernel_rfl) (by kernel_rfl) (by kernel_rfl) (by kernel_rfl) (orc14 ra 0 15 (i64_inB hra (by omega) (by omega) (by omega))) ?_
  refine aops_see 24 (.int .i64 (ra % 16)) (see_int (x := (0 + ra % (15 - 0 + 1))) (by kernel_rfl) (by rw [show ((15 : Int) - 0 + 1) = 16 from rfl]; omega)) ?_
  refine aops_go 2 60 (by kernel_rfl) ?_
  refine aops_end (by kernel_rfl) (then_normal ?_)
  refine aw_code f6bccccc_eq ?_
  refine aw_then ?_
  refine aw_code f6bccccca_eq ?_
  refine aw_then ?_
  refine aw_code f6bcccccaa_eq ?_
  refine aw_reg ?_
  refine aops_go 3 60 (by kernel_rfl) ?_
  refine aops_end (by kernel_rfl) (then_normal ?_)
  refine aw_code f6bcccccac_eq ?_
  refine aw_cond (t := true) (by kernel_rfl) ?_
  refine aw_code f6bcccccaca_eq ?_
  refine aw_reg ?_
  refine aops_go 2 60 (by kernel_rfl) ?_
  refine aops_ask 31 (.int .i64 (0 + rb % (15 - 0 + 1))) 14 #[.int .i64 rb, .int .i64 0, .int .i64 15] (by kernel_rfl) (by kernel_rfl) (by kernel_rfl) (by kernel_rfl) (orc14 rb 0 15 (i64_inB hrb (by omega) (by omega) (by omega))) ?_
  refine aops_see 31 (.int .i64 (rb % 16)) (see_int (x := (0 + rb % (15 - 0 + 1))) (by kernel_rfl) (by rw [show ((15 : Int) - 0 + 1) = 16 from rfl]; omega)) ?_
  refine aops_go 2 60 (by kernel_rfl) ?_
  refine aops_end (by kernel_rfl) (then_normal ?_)
  refine aw_code f6bcccccc_eq ?_
  refine aw_then ?_
  refine aw_code f6bcccccca_eq ?_
  refine aw_then ?_
  refine aw_code f6bccccccaa_eq ?_
  refine aw_reg ?_
  refine aops_go 3 60 (by kernel_rfl) ?_
  refine aops_end (by kernel_rfl) (then_normal ?_)
  refine aw_code f6bccccccac_eq ?_
  refine aw_cond (t := false) (by kernel_rfl) ?_
  refine aw_skip (then_normal ?_)
  refine aw_code f6bccccccc_eq ?_
  refine aw_then ?_
  refine aw_code f6bccccccca_eq ?_
  refine aw_reg ?_
  refine aops_go 2 60 (by kernel_rfl) ?_
  refine aops_end (by kernel_rfl) (then_normal ?_)
  refine aw_ret (bodyQ_ret ⟨.agg #[.int .i64 6, .int .i64 (rd % 16), .int .i64 (ra % 16), .int .i64 (rb % 16), .int .u32 0], (by kernel_rfl), ?_⟩)
  rw [ho]; rfl
theorem f6_7 {op rd ra rb im : Int} (hop : i64B op = true) (hrd : i64B rd = true) (hra : i64B ra = true) (hrb : i64B rb = true) (ho : op % 20 = 7) : ACall Tryd.prog T11 6 #[.agg #[.int .i64 op, .int .i64 rd, .int .i64 ra, .int .i64 rb, .int .u32 im]] ⟨.lf, 0⟩ fun r _ => r = .agg #[.int .i64 (op % 20), .int .i64 (pick0 (rdB (op % 20)) (rd % 16)), .int .i64 (pick0 (raB (op % 20)) (ra % 16)), .int .i64 (pick0 (rbB (op % 20)) (rb % 16)), .int .u32 (pick0 (imB (op % 20)) im)] := by
  refine acall_of' 40 (initTm 0 #[.agg #[.int .i64 op, .int .i64 rd, .int .i64 ra, .int .i64 rb, .int .u32 im]]) rfl f6_fn f6_body rfl rfl ?_
  refine aw_code f6b_eq ?_
  refine aw_then ?_
  refine aw_code f6ba_eq ?_
  refine aw_reg ?_
  refine aops_go 2 60 (by kernel_rfl) ?_
  refine aops_end (by kernel_rfl) (then_normal ?_)
  refine aw_code f6bc_eq ?_
  refine aw_then ?_
  refine aw_code f6bca_eq ?_
  refine aw_reg ?_
  refine aops_go 2 60 (by kernel_rfl) ?_
  refine aops_ask 7 (.int .i64 (0 + op % (19 - 0 + 1))) 14 #[.int .i64 op, .int .i64 0, .int .i64 19] (by kernel_rfl) (by kernel_rfl) (by kernel_rfl) (by kernel_rfl) (orc14 op 0 19 (i64_inB hop (by omega) (by omega) (by omega))) ?_
  refine aops_see 7 (.int .i64 7) (see_int (x := (0 + op % (19 - 0 + 1))) (by kernel_rfl) (by omega)) ?_
  refine aops_go 3 60 (by kernel_rfl) ?_
  refine aops_end (by kernel_rfl) (then_normal ?_)
  refine aw_code f6bcc_eq ?_
  refine aw_then ?_
  refine aw_code f6bcca_eq ?_
  refine aw_reg ?_
  refine aops_go 2 60 (by kernel_rfl) ?_
  refine aops_ask 11 (.int .i64 7) 15 #[.int .i64 7] (by kernel_rfl) (by kernel_rfl) (by kernel_rfl) (by kernel_rfl) (by kernel_rfl) ?_
  refine aops_go 1 60 (by kernel_rfl) ?_
  refine aops_end (by kernel_rfl) (then_normal ?_)
  refine aw_code f6bccc_eq ?_
  refine aw_then ?_
  refine aw_code f6bccca_eq ?_
  refine aw_then ?_
  refine aw_code f6bcccaa_eq ?_
  refine aw_reg ?_
  refine aops_go 3 60 (by kernel_rfl) ?_
  refine aops_end (by kernel_rfl) (then_normal ?_)
  refine aw_code f6bcccac_eq ?_
  refine aw_cond (t := true) (by kernel_rfl) ?_
  refine aw_code f6bcccaca_eq ?_
  refine aw_reg ?_
  refine aops_go 2 60 (by kernel_rfl) ?_
  refine aops_ask 17 (.int .i64 (0 + rd % (15 - 0 + 1))) 14 #[.int .i64 rd, .int .i64 0, .int .i64 15] (by kernel_rfl) (by kernel_rfl) (by kernel_rfl) (by kernel_rfl) (orc14 rd 0 15 (i64_inB hrd (by omega) (by omega) (by omega))) ?_
  refine aops_see 17 (.int .i64 (rd % 16)) (see_int (x := (0 + rd % (15 - 0 + 1))) (by kernel_rfl) (by rw [show ((15 : Int) - 0 + 1) = 16 from rfl]; omega)) ?_
  refine aops_go 2 60 (by kernel_rfl) ?_
  refine aops_end (by kernel_rfl) (then_normal ?_)
  refine aw_code f6bcccc_eq ?_
  refine aw_then ?_
  refine aw_code f6bcccca_eq ?_
  refine aw_then ?_
  refine aw_code f6bccccaa_eq ?_
  refine aw_reg ?_
  refine aops_go 3 60 (by kernel_rfl) ?_
  refine aops_end (by kernel_rfl) (then_normal ?_)
  refine aw_code f6bccccac_eq ?_
  refine aw_cond (t := true) (by kernel_rfl) ?_
  refine aw_code f6bccccaca_eq ?_
  refine aw_reg ?_
  refine aops_go 2 60 (by kernel_rfl) ?_
  refine aops_ask 24 (.int .i64 (0 + ra % (15 - 0 + 1))) 14 #[.int .i64 ra, .int .i64 0, .int .i64 15] (by kernel_rfl) (by kernel_rfl) (by kernel_rfl) (by kernel_rfl) (orc14 ra 0 15 (i64_inB hra (by omega) (by omega) (by omega))) ?_
  refine aops_see 24 (.int .i64 (ra % 16)) (see_int (x := (0 + ra % (15 - 0 + 1))) (by kernel_rfl) (by rw [show ((15 : Int) - 0 + 1) = 16 from rfl]; omega)) ?_
  refine aops_go 2 60 (by kernel_rfl) ?_
  refine aops_end (by kernel_rfl) (then_normal ?_)
  refine aw_code f6bccccc_eq ?_
  refine aw_then ?_
  refine aw_code f6bccccca_eq ?_
  refine aw_then ?_
  refine aw_code f6bcccccaa_eq ?_
  refine aw_reg ?_
  refine aops_go 3 60 (by kernel_rfl) ?_
  refine aops_end (by kernel_rfl) (then_normal ?_)
  refine aw_code f6bcccccac_eq ?_
  refine aw_cond (t := true) (by kernel_rfl) ?_
  refine aw_code f6bcccccaca_eq ?_
  refine aw_reg ?_
  refine aops_go 2 60 (by kernel_rfl) ?_
  refine aops_ask 31 (.int .i64 (0 + rb % (15 - 0 + 1))) 14 #[.int .i64 rb, .int .i64 0, .int .i64 15] (by kernel_rfl) (by kernel_rfl) (by kernel_rfl) (by kernel_rfl) (orc14 rb 0 15 (i64_inB hrb (by omega) (by omega) (by omega))) ?_
  refine aops_see 31 (.int .i64 (rb % 16)) (see_int (x := (0 + rb % (15 - 0 + 1))) (by kernel_rfl) (by rw [show ((15 : Int) - 0 + 1) = 16 from rfl]; omega)) ?_
  refine aops_go 2 60 (by kernel_rfl) ?_
  refine aops_end (by kernel_rfl) (then_normal ?_)
  refine aw_code f6bcccccc_eq ?_
  refine aw_then ?_
  refine aw_code f6bcccccca_eq ?_
  refine aw_then ?_
  refine aw_code f6bccccccaa_eq ?_
  refine aw_reg ?_
  refine aops_go 3 60 (by kernel_rfl) ?_
  refine aops_end (by kernel_rfl) (then_normal ?_)
  refine aw_code f6bccccccac_eq ?_
  refine aw_cond (t := false) (by kernel_rfl) ?_
  refine aw_skip (then_normal ?_)
  refine aw_code f6bccccccc_eq ?_
  refine aw_then ?_
  refine aw_code f6bccccccca_eq ?_
  refine aw_reg ?_
  refine aops_go 2 60 (by kernel_rfl) ?_
  refine aops_end (by kernel_rfl) (then_normal ?_)
  refine aw_ret (bodyQ_ret ⟨.agg #[.int .i64 7, .int .i64 (rd % 16), .int .i64 (ra % 16), .int .i64 (rb % 16), .int .u32 0], (by kernel_rfl), ?_⟩)
  rw [ho]; rfl
theorem f6_8 {op rd ra rb im : Int} (hop : i64B op = true) (hrd : i64B rd = true) (hra : i64B ra = true) (hrb : i64B rb = true) (ho : op % 20 = 8) : ACall Tryd.prog T11 6 #[.agg #[.int .i64 op, .int .i64 rd, .int .i64 ra, .int .i64 rb, .int .u32 im]] ⟨.lf, 0⟩ fun r _ => r = .agg #[.int .i64 (op % 20), .int .i64 (pick0 (rdB (op % 20)) (rd % 16)), .int .i64 (pick0 (raB (op % 20)) (ra % 16)), .int .i64 (pick0 (rbB (op % 20)) (rb % 16)), .int .u32 (pick0 (imB (op % 20)) im)] := by
  refine acall_of' 40 (initTm 0 #[.agg #[.int .i64 op, .int .i64 rd, .int .i64 ra, .int .i64 rb, .int .u32 im]]) rfl f6_fn f6_body rfl rfl ?_
  refine aw_code f6b_eq ?_
  refine aw_then ?_
  refine aw_code f6ba_eq ?_
  refine aw_reg ?_
  refine aops_go 2 60 (by kernel_rfl) ?_
  refine aops_end (by kernel_rfl) (then_normal ?_)
  refine aw_code f6bc_eq ?_
  refine aw_then ?_
  refine aw_code f6bca_eq ?_
  refine aw_reg ?_
  refine aops_go 2 60 (by kernel_rfl) ?_
  refine aops_ask 7 (.int .i64 (0 + op % (19 - 0 + 1))) 14 #[.int .i64 op, .int .i64 0, .int .i64 19] (by kernel_rfl) (by kernel_rfl) (by kernel_rfl) (by kernel_rfl) (orc14 op 0 19 (i64_inB hop (by omega) (by omega) (by omega))) ?_
  refine aops_see 7 (.int .i64 8) (see_int (x := (0 + op % (19 - 0 + 1))) (by kernel_rfl) (by omega)) ?_
  refine aops_go 3 60 (by kernel_rfl) ?_
  refine aops_end (by kernel_rfl) (then_normal ?_)
  refine aw_code f6bcc_eq ?_
  refine aw_then ?_
  refine aw_code f6bcca_eq ?_
  refine aw_reg ?_
  refine aops_go 2 60 (by kernel_rfl) ?_
  refine aops_ask 11 (.int .i64 7) 15 #[.int .i64 8] (by kernel_rfl) (by kernel_rfl) (by kernel_rfl) (by kernel_rfl) (by kernel_rfl) ?_
  refine aops_go 1 60 (by kernel_rfl) ?_
  refine aops_end (by kernel_rfl) (then_normal ?_)
  refine aw_code f6bccc_eq ?_
  refine aw_then ?_
  refine aw_code f6bccca_eq ?_
  refine aw_then ?_
  refine aw_code f6bcccaa_eq ?_
  refine aw_reg ?_
  refine aops_go 3 60 (by kernel_rfl) ?_
  refine aops_end (by kernel_rfl) (then_normal ?_)
  refine aw_code f6bcccac_eq ?_
  refine aw_cond (t := true) (by kernel_rfl) ?_
  refine aw_code f6bcccaca_eq ?_
  refine aw_reg ?_
  refine aops_go 2 60 (by kernel_rfl) ?_
  refine aops_ask 17 (.int .i64 (0 + rd % (15 - 0 + 1))) 14 #[.int .i64 rd, .int .i64 0, .int .i64 15] (by kernel_rfl) (by kernel_rfl) (by kernel_rfl) (by kernel_rfl) (orc14 rd 0 15 (i64_inB hrd (by omega) (by omega) (by omega))) ?_
  refine aops_see 17 (.int .i64 (rd % 16)) (see_int (x := (0 + rd % (15 - 0 + 1))) (by kernel_rfl) (by rw [show ((15 : Int) - 0 + 1) = 16 from rfl]; omega)) ?_
  refine aops_go 2 60 (by kernel_rfl) ?_
  refine aops_end (by kernel_rfl) (then_normal ?_)
  refine aw_code f6bcccc_eq ?_
  refine aw_then ?_
  refine aw_code f6bcccca_eq ?_
  refine aw_then ?_
  refine aw_code f6bccccaa_eq ?_
  refine aw_reg ?_
  refine aops_go 3 60 (by kernel_rfl) ?_
  refine aops_end (by kernel_rfl) (then_normal ?_)
  refine aw_code f6bccccac_eq ?_
  refine aw_cond (t := true) (by kernel_rfl) ?_
  refine aw_code f6bccccaca_eq ?_
  refine aw_reg ?_
  refine aops_go 2 60 (by kernel_rfl) ?_
  refine aops_ask 24 (.int .i64 (0 + ra % (15 - 0 + 1))) 14 #[.int .i64 ra, .int .i64 0, .int .i64 15] (by kernel_rfl) (by kernel_rfl) (by kernel_rfl) (by kernel_rfl) (orc14 ra 0 15 (i64_inB hra (by omega) (by omega) (by omega))) ?_
  refine aops_see 24 (.int .i64 (ra % 16)) (see_int (x := (0 + ra % (15 - 0 + 1))) (by kernel_rfl) (by rw [show ((15 : Int) - 0 + 1) = 16 from rfl]; omega)) ?_
  refine aops_go 2 60 (by kernel_rfl) ?_
  refine aops_end (by kernel_rfl) (then_normal ?_)
  refine aw_code f6bccccc_eq ?_
  refine aw_then ?_
  refine aw_code f6bccccca_eq ?_
  refine aw_then ?_
  refine aw_code f6bcccccaa_eq ?_
  refine aw_reg ?_
  refine aops_go 3 60 (by kernel_rfl) ?_
  refine aops_end (by kernel_rfl) (then_normal ?_)
  refine aw_code f6bcccccac_eq ?_
  refine aw_cond (t := true) (by kernel_rfl) ?_
  refine aw_code f6bcccccaca_eq ?_
  refine aw_reg ?_
  refine aops_go 2 60 (by kernel_rfl) ?_
  refine aops_ask 31 (.int .i64 (0 + rb % (15 - 0 + 1))) 14 #[.int .i64 rb, .int .i64 0, .int .i64 15] (by kernel_rfl) (by kernel_rfl) (by kernel_rfl) (by kernel_rfl) (orc14 rb 0 15 (i64_inB hrb (by omega) (by omega) (by omega))) ?_
  refine aops_see 31 (.int .i64 (rb % 16)) (see_int (x := (0 + rb % (15 - 0 + 1))) (by kernel_rfl) (by rw [show ((15 : Int) - 0 + 1) = 16 from rfl]; omega)) ?_
  refine aops_go 2 60 (by kernel_rfl) ?_
  refine aops_end (by kernel_rfl) (then_normal ?_)
  refine aw_code f6bcccccc_eq ?_
  refine aw_then ?_
  refine aw_code f6bcccccca_eq ?_
  refine aw_then ?_
  refine aw_code f6bccccccaa_eq ?_
  refine aw_reg ?_
  refine aops_go 3 60 (by kernel_rfl) ?_
  refine aops_end (by kernel_rfl) (then_normal ?_)
  refine aw_code f6bccccccac_eq ?_
  refine aw_cond (t := false) (by kernel_rfl) ?_
  refine aw_skip (then_normal ?_)
  refine aw_code f6bccccccc_eq ?_
  refine aw_then ?_
  refine aw_code f6bccccccca_eq ?_
  refine aw_reg ?_
  refine aops_go 2 60 (by kernel_rfl) ?_
  refine aops_end (by kernel_rfl) (then_normal ?_)
  refine aw_ret (bodyQ_ret ⟨.agg #[.int .i64 8, .int .i64 (rd % 16), .int .i64 (ra % 16), .int .i64 (rb % 16), .int .u32 0], (by kernel_rfl), ?_⟩)
  rw [ho]; rfl
theorem f6_9 {op rd ra rb im : Int} (hop : i64B op = true) (hrd : i64B rd = true) (hra : i64B ra = true) (hrb : i64B rb = true) (ho : op % 20 = 9) : ACall Tryd.prog T11 6 #[.agg #[.int .i64 op, .int .i64 rd, .int .i64 ra, .int .i64 rb, .int .u32 im]] ⟨.lf, 0⟩ fun r _ => r = .agg #[.int .i64 (op % 20), .int .i64 (pick0 (rdB (op % 20)) (rd % 16)), .int .i64 (pick0 (raB (op % 20)) (ra % 16)), .int .i64 (pick0 (rbB (op % 20)) (rb % 16)), .int .u32 (pick0 (imB (op % 20)) im)] := by
  refine acall_of' 40 (initTm 0 #[.agg #[.int .i64 op, .int .i64 rd, .int .i64 ra, .int .i64 rb, .int .u32 im]]) rfl f6_fn f6_body rfl rfl ?_
  refine aw_code f6b_eq ?_
  refine aw_then ?_
  refine aw_code f6ba_eq ?_
  refine aw_reg ?_
  refine aops_go 2 60 (by kernel_rfl) ?_
  refine aops_end (by kernel_rfl) (then_normal ?_)
  refine aw_code f6bc_eq ?_
  refine aw_then ?_
  refine aw_code f6bca_eq ?_
  refine aw_reg ?_
  refine aops_go 2 60 (by kernel_rfl) ?_
  refine aops_ask 7 (.int .i64 (0 + op % (19 - 0 + 1))) 14 #[.int .i64 op, .int .i64 0, .int .i64 19] (by kernel_rfl) (by kernel_rfl) (by kernel_rfl) (by kernel_rfl) (orc14 op 0 19 (i64_inB hop (by omega) (by omega) (by omega))) ?_
  refine aops_see 7 (.int .i64 9) (see_int (x := (0 + op % (19 - 0 + 1))) (by kernel_rfl) (by omega)) ?_
  refine aops_go 3 60 (by kernel_rfl) ?_
  refine aops_end (by kernel_rfl) (then_normal ?_)
  refine aw_code f6bcc_eq ?_
  refine aw_then ?_
  refine aw_code f6bcca_eq ?_
  refine aw_reg ?_
  refine aops_go 2 60 (by kernel_rfl) ?_
  refine aops_ask 11 (.int .i64 7) 15 #[.int .i64 9] (by kernel_rfl) (by kernel_rfl) (by kernel_rfl) (by kernel_rfl) (by kernel_rfl) ?_
  refine aops_go 1 60 (by kernel_rfl) ?_
  refine aops_end (by kernel_rfl) (then_normal ?_)
  refine aw_code f6bccc_eq ?_
  refine aw_then ?_
  refine aw_code f6bccca_eq ?_
  refine aw_then ?_
  refine aw_code f6bcccaa_eq ?_
  refine aw_reg ?_
  refine aops_go 3 60 (by kernel_rfl) ?_
  refine aops_end (by kernel_rfl) (then_normal ?_)
  refine aw_code f6bcccac_eq ?_
  refine aw_cond (t := true) (by kernel_rfl) ?_
  refine aw_code f6bcccaca_eq ?_
  refine aw_reg ?_
  refine aops_go 2 60 (by kernel_rfl) ?_
  refine aops_ask 17 (.int .i64 (0 + rd % (15 - 0 + 1))) 14 #[.int .i64 rd, .int .i64 0, .int .i64 15] (by kernel_rfl) (by kernel_rfl) (by kernel_rfl) (by kernel_rfl) (orc14 rd 0 15 (i64_inB hrd (by omega) (by omega) (by omega))) ?_
  refine aops_see 17 (.int .i64 (rd % 16)) (see_int (x := (0 + rd % (15 - 0 + 1))) (by kernel_rfl) (by rw [show ((15 : Int) - 0 + 1) = 16 from rfl]; omega)) ?_
  refine aops_go 2 60 (by kernel_rfl) ?_
  refine aops_end (by kernel_rfl) (then_normal ?_)
  refine aw_code f6bcccc_eq ?_
  refine aw_then ?_
  refine aw_code f6bcccca_eq ?_
  refine aw_then ?_
  refine aw_code f6bccccaa_eq ?_
  refine aw_reg ?_
  refine aops_go 3 60 (by kernel_rfl) ?_
  refine aops_end (by kernel_rfl) (then_normal ?_)
  refine aw_code f6bccccac_eq ?_
  refine aw_cond (t := true) (by kernel_rfl) ?_
  refine aw_code f6bccccaca_eq ?_
  refine aw_reg ?_
  refine aops_go 2 60 (by kernel_rfl) ?_
  refine aops_ask 24 (.int .i64 (0 + ra % (15 - 0 + 1))) 14 #[.int .i64 ra, .int .i64 0, .int .i64 15] (by kernel_rfl) (by kernel_rfl) (by kernel_rfl) (by kernel_rfl) (orc14 ra 0 15 (i64_inB hra (by omega) (by omega) (by omega))) ?_
  refine aops_see 24 (.int .i64 (ra % 16)) (see_int (x := (0 + ra % (15 - 0 + 1))) (by kernel_rfl) (by rw [show ((15 : Int) - 0 + 1) = 16 from rfl]; omega)) ?_
  refine aops_go 2 60 (by kernel_rfl) ?_
  refine aops_end (by kernel_rfl) (then_normal ?_)
  refine aw_code f6bccccc_eq ?_
  refine aw_then ?_
  refine aw_code f6bccccca_eq ?_
  refine aw_then ?_
  refine aw_code f6bcccccaa_eq ?_
  refine aw_reg ?_
  refine aops_go 3 60 (by kernel_rfl) ?_
  refine aops_end (by kernel_rfl) (then_normal ?_)
  refine aw_code f6bcccccac_eq ?_
  refine aw_cond (t := true) (by kernel_rfl) ?_
  refine aw_code f6bcccccaca_eq ?_
  refine aw_reg ?_
  refine aops_go 2 60 (by kernel_rfl) ?_
  refine aops_ask 31 (.int .i64 (0 + rb % (15 - 0 + 1))) 14 #[.int .i64 rb, .int .i64 0, .int .i64 15] (by kernel_rfl) (by kernel_rfl) (by kernel_rfl) (by kernel_rfl) (orc14 rb 0 15 (i64_inB hrb (by omega) (by omega) (by omega))) ?_
  refine aops_see 31 (.int .i64 (rb % 16)) (see_int (x := (0 + rb % (15 - 0 + 1))) (by kernel_rfl) (by rw [show ((15 : Int) - 0 + 1) = 16 from rfl]; omega)) ?_
  refine aops_go 2 60 (by kernel_rfl) ?_
  refine aops_end (by kernel_rfl) (then_normal ?_)
  refine aw_code f6bcccccc_eq ?_
  refine aw_then ?_
  refine aw_code f6bcccccca_eq ?_
  refine aw_then ?_
  refine aw_code f6bccccccaa_eq ?_
  refine aw_reg ?_
  refine aops_go 3 60 (by kernel_rfl) ?_
  refine aops_end (by kernel_rfl) (then_normal ?_)
  refine aw_code f6bccccccac_eq ?_
  refine aw_cond (t := false) (by kernel_rfl) ?_
  refine aw_skip (then_normal ?_)
  refine aw_code f6bccccccc_eq ?_
  refine aw_then ?_
  refine aw_code f6bccccccca_eq ?_
  refine aw_reg ?_
  refine aops_go 2 60 (by kernel_rfl) ?_
  refine aops_end (by kernel_rfl) (then_normal ?_)
  refine aw_ret (bodyQ_ret ⟨.agg #[.int .i64 9, .int .i64 (rd % 16), .int .i64 (ra % 16), .int .i64 (rb % 16), .int .u32 0], (by kernel_rfl), ?_⟩)
  rw [ho]; rfl
theorem f6_10 {op rd ra rb im : Int} (hop : i64B op = true) (hrd : i64B rd = true) (hra : i64B ra = true) (hrb : i64B rb = true) (ho : op % 20 = 10) : ACall Tryd.prog T11 6 #[.agg #[.int .i64 op, .int .i64 rd, .int .i64 ra, .int .i64 rb, .int .u32 im]] ⟨.lf, 0⟩ fun r _ => r = .agg #[.int .i64 (op % 20), .int .i64 (pick0 (rdB (op % 20)) (rd % 16)), .int .i64 (pick0 (raB (op % 20)) (ra % 16)), .int .i64 (pick0 (rbB (op % 20)) (rb % 16)), .int .u32 (pick0 (imB (op % 20)) im)] := by
  refine acall_of' 40 (initTm 0 #[.agg #[.int .i64 op, .int .i64 rd, .int .i64 ra, .int .i64 rb, .int .u32 im]]) rfl f6_fn f6_body rfl rfl ?_
  refine aw_code f6b_eq ?_
  refine aw_then ?_
  refine aw_code f6ba_eq ?_
  refine aw_reg ?_
  refine aops_go 2 60 (by kernel_rfl) ?_
  refine aops_end (by kernel_rfl) (then_normal ?_)
  refine aw_code f6bc_eq ?_
  refine aw_then ?_
  refine aw_code f6bca_eq ?_
  refine aw_reg ?_
  refine aops_go 2 60 (by kernel_rfl) ?_
  refine aops_ask 7 (.int .i64 (0 + op % (19 - 0 + 1))) 14 #[.int .i64 op, .int .i64 0, .int .i64 19] (by kernel_rfl) (by kernel_rfl) (by kernel_rfl) (by kernel_rfl) (orc14 op 0 19 (i64_inB hop (by omega) (by omega) (by omega))) ?_
  refine aops_see 7 (.int .i64 10) (see_int (x := (0 + op % (19 - 0 + 1))) (by kernel_rfl) (by omega)) ?_
  refine aops_go 3 60 (by kernel_rfl) ?_
  refine aops_end (by kernel_rfl) (then_normal ?_)
  refine aw_code f6bcc_eq ?_
  refine aw_then ?_
  refine aw_code f6bcca_eq ?_
  refine aw_reg ?_
  refine aops_go 2 60 (by kernel_rfl) ?_
  refine aops_ask 11 (.int .i64 7) 15 #[.int .i64 10] (by kernel_rfl) (by kernel_rfl) (by kernel_rfl) (by kernel_rfl) (by kernel_rfl) ?_
  refine aops_go 1 60 (by kernel_rfl) ?_
  refine aops_end (by kernel_rfl) (then_normal ?_)
  refine aw_code f6bccc_eq ?_
  refine aw_then ?_
  refine aw_code f6bccca_eq ?_
  refine aw_then ?_
  refine aw_code f6bcccaa_eq ?_
  refine aw_reg ?_
  refine aops_go 3 60 (by kernel_rfl) ?_
  refine aops_end (by kernel_rfl) (then_normal ?_)
  refine aw_code f6bcccac_eq ?_
  refine aw_cond (t := true) (by kernel_rfl) ?_
  refine aw_code f6bcccaca_eq ?_
  refine aw_reg ?_
  refine aops_go 2 60 (by kernel_rfl) ?_
  refine aops_ask 17 (.int .i64 (0 + rd % (15 - 0 + 1))) 14 #[.int .i64 rd, .int .i64 0, .int .i64 15] (by kernel_rfl) (by kernel_rfl) (by kernel_rfl) (by kernel_rfl) (orc14 rd 0 15 (i64_inB hrd (by omega) (by omega) (by omega))) ?_
  refine aops_see 17 (.int .i64 (rd % 16)) (see_int (x := (0 + rd % (15 - 0 + 1))) (by kernel_rfl) (by rw [show ((15 : Int) - 0 + 1) = 16 from rfl]; omega)) ?_
  refine aops_go 2 60 (by kernel_rfl) ?_
  refine aops_end (by kernel_rfl) (then_normal ?_)
  refine aw_code f6bcccc_eq ?_
  refine aw_then ?_
  refine aw_code f6bcccca_eq ?_
  refine aw_then ?_
  refine aw_code f6bccccaa_eq ?_
  refine aw_reg ?_
  refine aops_go 3 60 (by kernel_rfl) ?_
  refine aops_end (by kernel_rfl) (then_normal ?_)
  refine aw_code f6bccccac_eq ?_
  refine aw_cond (t := true) (by kernel_rfl) ?_
  refine aw_code f6bccccaca_eq ?_
  refine aw_reg ?_
  refine aops_go 2 60 (by kernel_rfl) ?_
  refine aops_ask 24 (.int .i64 (0 + ra % (15 - 0 + 1))) 14 #[.int .i64 ra, .int .i64 0, .int .i64 15] (by kernel_rfl) (by kernel_rfl) (by kernel_rfl) (by kernel_rfl) (orc14 ra 0 15 (i64_inB hra (by omega) (by omega) (by omega))) ?_
  refine aops_see 24 (.int .i64 (ra % 16)) (see_int (x := (0 + ra % (15 - 0 + 1))) (by kernel_rfl) (by rw [show ((15 : Int) - 0 + 1) = 16 from rfl]; omega)) ?_
  refine aops_go 2 60 (by kernel_rfl) ?_
  refine aops_end (by kernel_rfl) (then_normal ?_)
  refine aw_code f6bccccc_eq ?_
  refine aw_then ?_
  refine aw_code f6bccccca_eq ?_
  refine aw_then ?_
  refine aw_code f6bcccccaa_eq ?_
  refine aw_reg ?_
  refine aops_go 3 60 (by kernel_rfl) ?_
  refine aops_end (by kernel_rfl) (then_normal ?_)
  refine aw_code f6bcccccac_eq ?_
  refine aw_cond (t := true) (by kernel_rfl) ?_
  refine aw_code f6bcccccaca_eq ?_
  refine aw_reg ?_
  refine aops_go 2 60 (by kernel_rfl) ?_
  refine aops_ask 31 (.int .i64 (0 + rb % (15 - 0 + 1))) 14 #[.int .i64 rb, .int .i64 0, .int .i64 15] (by kernel_rfl) (by kernel_rfl) (by kernel_rfl) (by kernel_rfl) (orc14 rb 0 15 (i64_inB hrb (by omega) (by omega) (by omega))) ?_
  refine aops_see 31 (.int .i64 (rb % 16)) (see_int (x := (0 + rb % (15 - 0 + 1))) (by kernel_rfl) (by rw [show ((15 : Int) - 0 + 1) = 16 from rfl]; omega)) ?_
  refine aops_go 2 60 (by kernel_rfl) ?_
  refine aops_end (by kernel_rfl) (then_normal ?_)
  refine aw_code f6bcccccc_eq ?_
  refine aw_then ?_
  refine aw_code f6bcccccca_eq ?_
  refine aw_then ?_
  refine aw_code f6bccccccaa_eq ?_
  refine aw_reg ?_
  refine aops_go 3 60 (by kernel_rfl) ?_
  refine aops_end (by kernel_rfl) (then_normal ?_)
  refine aw_code f6bccccccac_eq ?_
  refine aw_cond (t := false) (by kernel_rfl) ?_
  refine aw_skip (then_normal ?_)
  refine aw_code f6bccccccc_eq ?_
  refine aw_then ?_
  refine aw_code f6bccccccca_eq ?_
  refine aw_reg ?_
  refine aops_go 2 60 (by kernel_rfl) ?_
  refine aops_end (by kernel_rfl) (then_normal ?_)
  refine aw_ret (bodyQ_ret ⟨.agg #[.int .i64 10, .int .i64 (rd % 16), .int .i64 (ra % 16), .int .i64 (rb % 16), .int .u32 0], (by kernel_rfl), ?_⟩)
  rw [ho]; rfl
theorem f6_11 {op rd ra rb im : Int} (hop : i64B op = true) (hrd : i64B rd = true) (hra : i64B ra = true) (hrb : i64B rb = true) (ho : op % 20 = 11) : ACall Tryd.prog T11 6 #[.agg #[.int .i64 op, .int .i64 rd, .int .i64 ra, .int .i64 rb, .int .u32 im]] ⟨.lf, 0⟩ fun r _ => r = .agg #[.int .i64 (op % 20), .int .i64 (pick0 (rdB (op % 20)) (rd % 16)), .int .i64 (pick0 (raB (op % 20)) (ra % 16)), .int .i64 (pick0 (rbB (op % 20)) (rb % 16)), .int .u32 (pick0 (imB (op % 20)) im)] := by
  refine acall_of' 40 (initTm 0 #[.agg #[.int .i64 op, .int .i64 rd, .int .i64 ra, .int .i64 rb, .int .u32 im]]) rfl f6_fn f6_body rfl rfl ?_
  refine aw_code f6b_eq ?_
  refine aw_then ?_
  refine aw_code f6ba_eq ?_
  refine aw_reg ?_
  refine aops_go 2 60 (by kernel_rfl) ?_
  refine aops_end (by kernel_rfl) (then_normal ?_)
  refine aw_code f6bc_eq ?_
  refine aw_then ?_
  refine aw_code f6bca_eq ?_
  refine aw_reg ?_
  refine aops_go 2 60 (by kernel_rfl) ?_
  refine aops_ask 7 (.int .i64 (0 + op % (19 - 0 + 1))) 14 #[.int .i64 op, .int .i64 0, .int .i64 19] (by kernel_rfl) (by kernel_rfl) (by kernel_rfl) (by kernel_rfl) (orc14 op 0 19 (i64_inB hop (by omega) (by omega) (by omega))) ?_
  refine aops_see 7 (.int .i64 11) (see_int (x := (0 + op % (19 - 0 + 1))) (by kernel_rfl) (by omega)) ?_
  refine aops_go 3 60 (by kernel_rfl) ?_
  refine aops_end (by kernel_rfl) (then_normal ?_)
  refine aw_code f6bcc_eq ?_
  refine aw_then ?_
  refine aw_code f6bcca_eq ?_
  refine aw_reg ?_
  refine aops_go 2 60 (by kernel_rfl) ?_
  refine aops_ask 11 (.int .i64 7) 15 #[.int .i64 11] (by kernel_rfl) (by kernel_rfl) (by kernel_rfl) (by kernel_rfl) (by kernel_rfl) ?_
  refine aops_go 1 60 (by kernel_rfl) ?_
  refine aops_end (by kernel_rfl) (then_normal ?_)
  refine aw_code f6bccc_eq ?_
  refine aw_then ?_
  refine aw_code f6bccca_eq ?_
  refine aw_then ?_
  refine aw_code f6bcccaa_eq ?_
  refine aw_reg ?_
  refine aops_go 3 60 (by kernel_rfl) ?_
  refine aops_end (by kernel_rfl) (then_normal ?_)
  refine aw_code f6bcccac_eq ?_
  refine aw_cond (t := true) (by kernel_rfl) ?_
  refine aw_code f6bcccaca_eq ?_
  refine aw_reg ?_
  refine aops_go 2 60 (by kernel_rfl) ?_
  refine aops_ask 17 (.int .i64 (0 + rd % (15 - 0 + 1))) 14 #[.int .i64 rd, .int .i64 0, .int .i64 15] (by kernel_rfl) (by kernel_rfl) (by kernel_rfl) (by kernel_rfl) (orc14 rd 0 15 (i64_inB hrd (by omega) (by omega) (by omega))) ?_
  refine aops_see 17 (.int .i64 (rd % 16)) (see_int (x := (0 + rd % (15 - 0 + 1))) (by kernel_rfl) (by rw [show ((15 : Int) - 0 + 1) = 16 from rfl]; omega)) ?_
  refine aops_go 2 60 (by kernel_rfl) ?_
  refine aops_end (by kernel_rfl) (then_normal ?_)
  refine aw_code f6bcccc_eq ?_
  refine aw_then ?_
  refine aw_code f6bcccca_eq ?_
  refine aw_then ?_
  refine aw_code f6bccccaa_eq ?_
  refine aw_reg ?_
  refine aops_go 3 60 (by kernel_rfl) ?_
  refine aops_end (by kernel_rfl) (then_normal ?_)
  refine aw_code f6bccccac_eq ?_
  refine aw_cond (t := true) (by kernel_rfl) ?_
  refine aw_code f6bccccaca_eq ?_
  refine aw_reg ?_
  refine aops_go 2 60 (by kernel_rfl) ?_
  refine aops_ask 24 (.int .i64 (0 + ra % (15 - 0 + 1))) 14 #[.int .i64 ra, .int .i64 0, .int .i64 15] (by kernel_rfl) (by kernel_rfl) (by kernel_rfl) (by kernel_rfl) (orc14 ra 0 15 (i64_inB hra (by omega) (by omega) (by omega))) ?_
  refine aops_see 24 (.int .i64 (ra % 16)) (see_int (x := (0 + ra % (15 - 0 + 1))) (by kernel_rfl) (by rw [show ((15 : Int) - 0 + 1) = 16 from rfl]; omega)) ?_
  refine aops_go 2 60 (by kernel_rfl) ?_
  refine aops_end (by kernel_rfl) (then_normal ?_)
  refine aw_code f6bccccc_eq ?_
  refine aw_then ?_
  refine aw_code f6bccccca_eq ?_
  refine aw_then ?_
  refine aw_code f6bcccccaa_eq ?_
  refine aw_reg ?_
  refine aops_go 3 60 (by kernel_rfl) ?_
  refine aops_end (by kernel_rfl) (then_normal ?_)
  refine aw_code f6bcccccac_eq ?_
  refine aw_cond (t := true) (by kernel_rfl) ?_
  refine aw_code f6bcccccaca_eq ?_
  refine aw_reg ?_
  refine aops_go 2 60 (by kernel_rfl) ?_
  refine aops_ask 31 (.int .i64 (0 + rb % (15 - 0 + 1))) 14 #[.int .i64 rb, .int .i64 0, .int .i64 15] (by kernel_rfl) (by kernel_rfl) (by kernel_rfl) (by kernel_rfl) (orc14 rb 0 15 (i64_inB hrb (by omega) (by omega) (by omega))) ?_
  refine aops_see 31 (.int .i64 (rb % 16)) (see_int (x := (0 + rb % (15 - 0 + 1))) (by kernel_rfl) (by rw [show ((15 : Int) - 0 + 1) = 16 from rfl]; omega)) ?_
  refine aops_go 2 60 (by kernel_rfl) ?_
  refine aops_end (by kernel_rfl) (then_normal ?_)
  refine aw_code f6bcccccc_eq ?_
  refine aw_then ?_
  refine aw_code f6bcccccca_eq ?_
  refine aw_then ?_
  refine aw_code f6bccccccaa_eq ?_
  refine aw_reg ?_
  refine aops_go 3 60 (by kernel_rfl) ?_
  refine aops_end (by kernel_rfl) (then_normal ?_)
  refine aw_code f6bccccccac_eq ?_
  refine aw_cond (t := false) (by kernel_rfl) ?_
  refine aw_skip (then_normal ?_)
  refine aw_code f6bccccccc_eq ?_
  refine aw_then ?_
  refine aw_code f6bccccccca_eq ?_
  refine aw_reg ?_
  refine aops_go 2 60 (by kernel_rfl) ?_
  refine aops_end (by kernel_rfl) (then_normal ?_)
  refine aw_ret (bodyQ_ret ⟨.agg #[.int .i64 11, .int .i64 (rd % 16), .int .i64 (ra % 16), .int .i64 (rb % 16), .int .u32 0], (by kernel_rfl), ?_⟩)
  rw [ho]; rfl
theorem f6_12 {op rd ra rb im : Int} (hop : i64B op = true) (hrd : i64B rd = true) (hra : i64B ra = true) (hrb : i64B rb = true) (ho : op % 20 = 12) : ACall Tryd.prog T11 6 #[.agg #[.int .i64 op, .int .i64 rd, .int .i64 ra, .int .i64 rb, .int .u32 im]] ⟨.lf, 0⟩ fun r _ => r = .agg #[.int .i64 (op % 20), .int .i64 (pick0 (rdB (op % 20)) (rd % 16)), .int .i64 (pick0 (raB (op % 20)) (ra % 16)), .int .i64 (pick0 (rbB (op % 20)) (rb % 16)), .int .u32 (pick0 (imB (op % 20)) im)] := by
  refine acall_of' 40 (initTm 0 #[.agg #[.int .i64 op, .int .i64 rd, .int .i64 ra, .int .i64 rb, .int .u32 im]]) rfl f6_fn f6_body rfl rfl ?_
  refine aw_code f6b_eq ?_
  refine aw_then ?_
  refine aw_code f6ba_eq ?_
  refine aw_reg ?_
  refine aops_go 2 60 (by kernel_rfl) ?_
  refine aops_end (by kernel_rfl) (then_normal ?_)
  refine aw_code f6bc_eq ?_
  refine aw_then ?_
  refine aw_code f6bca_eq ?_
  refine aw_reg ?_
  refine aops_go 2 60 (by kernel_rfl) ?_
  refine aops_ask 7 (.int .i64 (0 + op % (19 - 0 + 1))) 14 #[.int .i64 op, .int .i64 0, .int .i64 19] (by kernel_rfl) (by kernel_rfl) (by kernel_rfl) (by kernel_rfl) (orc14 op 0 19 (i64_inB hop (by omega) (by omega) (by omega))) ?_
  refine aops_see 7 (.int .i64 12) (see_int (x := (0 + op % (19 - 0 + 1))) (by kernel_rfl) (by omega)) ?_
  refine aops_go 3 60 (by kernel_rfl) ?_
  refine aops_end (by kernel_rfl) (then_normal ?_)
  refine aw_code f6bcc_eq ?_
  refine aw_then ?_
  refine aw_code f6bcca_eq ?_
  refine aw_reg ?_
  refine aops_go 2 60 (by kernel_rfl) ?_
  refine aops_ask 11 (.int .i64 7) 15 #[.int .i64 12] (by kernel_rfl) (by kernel_rfl) (by kernel_rfl) (by kernel_rfl) (by kernel_rfl) ?_
  refine aops_go 1 60 (by kernel_rfl) ?_
  refine aops_end (by kernel_rfl) (then_normal ?_)
  refine aw_code f6bccc_eq ?_
  refine aw_then ?_
  refine aw_code f6bccca_eq ?_
  refine aw_then ?_
  refine aw_code f6bcccaa_eq ?_
  refine aw_reg ?_
  refine aops_go 3 60 (by kernel_rfl) ?_
  refine aops_end (by kernel_rfl) (then_normal ?_)
  refine aw_code f6bcccac_eq ?_
  refine aw_cond (t := true) (by kernel_rfl) ?_
  refine aw_code f6bcccaca_eq ?_
  refine aw_reg ?_
  refine aops_go 2 60 (by kernel_rfl) ?_
  refine aops_ask 17 (.int .i64 (0 + rd % (15 - 0 + 1))) 14 #[.int .i64 rd, .int .i64 0, .int .i64 15] (by kernel_rfl) (by kernel_rfl) (by kernel_rfl) (by kernel_rfl) (orc14 rd 0 15 (i64_inB hrd (by omega) (by omega) (by omega))) ?_
  refine aops_see 17 (.int .i64 (rd % 16)) (see_int (x := (0 + rd % (15 - 0 + 1))) (by kernel_rfl) (by rw [show ((15 : Int) - 0 + 1) = 16 from rfl]; omega)) ?_
  refine aops_go 2 60 (by kernel_rfl) ?_
  refine aops_end (by kernel_rfl) (then_normal ?_)
  refine aw_code f6bcccc_eq ?_
  refine aw_then ?_
  refine aw_code f6bcccca_eq ?_
  refine aw_then ?_
  refine aw_code f6bccccaa_eq ?_
  refine aw_reg ?_
  refine aops_go 3 60 (by kernel_rfl) ?_
  refine aops_end (by kernel_rfl) (then_normal ?_)
  refine aw_code f6bccccac_eq ?_
  refine aw_cond (t := true) (by kernel_rfl) ?_
  refine aw_code f6bccccaca_eq ?_
  refine aw_reg ?_
  refine aops_go 2 60 (by kernel_rfl) ?_
  refine aops_ask 24 (.int .i64 (0 + ra % (15 - 0 + 1))) 14 #[.int .i64 ra, .int .i64 0, .int .i64 15] (by kernel_rfl) (by kernel_rfl) (by kernel_rfl) (by kernel_rfl) (orc14 ra 0 15 (i64_inB hra (by omega) (by omega) (by omega))) ?_
  refine aops_see 24 (.int .i64 (ra % 16)) (see_int (x := (0 + ra % (15 - 0 + 1))) (by kernel_rfl) (by rw [show ((15 : Int) - 0 + 1) = 16 from rfl]; omega)) ?_
  refine aops_go 2 60 (by kernel_rfl) ?_
  refine aops_end (by kernel_rfl) (then_normal ?_)
  refine aw_code f6bccccc_eq ?_
  refine aw_then ?_
  refine aw_code f6bccccca_eq ?_
  refine aw_then ?_
  refine aw_code f6bcccccaa_eq ?_
  refine aw_reg ?_
  refine aops_go 3 60 (by kernel_rfl) ?_
  refine aops_end (by kernel_rfl) (then_normal ?_)
  refine aw_code f6bcccccac_eq ?_
  refine aw_cond (t := true) (by kernel_rfl) ?_
  refine aw_code f6bcccccaca_eq ?_
  refine aw_reg ?_
  refine aops_go 2 60 (by kernel_rfl) ?_
  refine aops_ask 31 (.int .i64 (0 + rb % (15 - 0 + 1))) 14 #[.int .i64 rb, .int .i64 0, .int .i64 15] (by kernel_rfl) (by kernel_rfl) (by kernel_rfl) (by kernel_rfl) (orc14 rb 0 15 (i64_inB hrb (by omega) (by omega) (by omega))) ?_
  refine aops_see 31 (.int .i64 (rb % 16)) (see_int (x := (0 + rb % (15 - 0 + 1))) (by kernel_rfl) (by rw [show ((15 : Int) - 0 + 1) = 16 from rfl]; omega)) ?_
  refine aops_go 2 60 (by kernel_rfl) ?_
  refine aops_end (by kernel_rfl) (then_normal ?_)
  refine aw_code f6bcccccc_eq ?_
  refine aw_then ?_
  refine aw_code f6bcccccca_eq ?_
  refine aw_then ?_
  refine aw_code f6bccccccaa_eq ?_
  refine aw_reg ?_
  refine aops_go 3 60 (by kernel_rfl) ?_
  refine aops_end (by kernel_rfl) (then_normal ?_)
  refine aw_code f6bccccccac_eq ?_
  refine aw_cond (t := false) (by kernel_rfl) ?_
  refine aw_skip (then_normal ?_)
  refine aw_code f6bccccccc_eq ?_
  refine aw_then ?_
  refine aw_code f6bccccccca_eq ?_
  refine aw_reg ?_
  refine aops_go 2 60 (by kernel_rfl) ?_
  refine aops_end (by kernel_rfl) (then_normal ?_)
  refine aw_ret (bodyQ_ret ⟨.agg #[.int .i64 12, .int .i64 (rd % 16), .int .i64 (ra % 16), .int .i64 (rb % 16), .int .u32 0], (by kernel_rfl), ?_⟩)
  rw [ho]; rfl
theorem f6_13 {op rd ra rb im : Int} (hop : i64B op = true) (hrd : i64B rd = true) (hra : i64B ra = true) (hrb : i64B rb = true) (ho : op % 20 = 13) : ACall Tryd.prog T11 6 #[.agg #[.int .i64 op, .int .i64 rd, .int .i64 ra, .int .i64 rb, .int .u32 im]] ⟨.lf, 0⟩ fun r _ => r = .agg #[.int .i64 (op % 20), .int .i64 (pick0 (rdB (op % 20)) (rd % 16)), .int .i64 (pick0 (raB (op % 20)) (ra % 16)), .int .i64 (pick0 (rbB (op % 20)) (rb % 16)), .int .u32 (pick0 (imB (op % 20)) im)] := by
  refine acall_of' 40 (initTm 0 #[.agg #[.int .i64 op, .int .i64 rd, .int .i64 ra, .int .i64 rb, .int .u32 im]]) rfl f6_fn f6_body rfl rfl ?_
  refine aw_code f6b_eq ?_
  refine aw_then ?_
  refine aw_code f6ba_eq ?_
  refine aw_reg ?_
  refine aops_go 2 60 (by kernel_rfl) ?_
  refine aops_end (by kernel_rfl) (then_normal ?_)
  refine aw_code f6bc_eq ?_
  refine aw_then ?_
  refine aw_code f6bca_eq ?_
  refine aw_reg ?_
  refine aops_go 2 60 (by kernel_rfl) ?_
  refine aops_ask 7 (.int .i64 (0 + op % (19 - 0 + 1))) 14 #[.int .i64 op, .int .i64 0, .int .i64 19] (by kernel_rfl) (by kernel_rfl) (by kernel_rfl) (by kernel_rfl) (orc14 op 0 19 (i64_inB hop (by omega) (by omega) (by omega))) ?_
  refine aops_see 7 (.int .i64 13) (see_int (x := (0 + op % (19 - 0 + 1))) (by kernel_rfl) (by omega)) ?_
  refine aops_go 3 60 (by kernel_rfl) ?_
  refine aops_end (by kernel_rfl) (then_normal ?_)
  refine aw_code f6bcc_eq ?_
  refine aw_then ?_
  refine aw_code f6bcca_eq ?_
  refine aw_reg ?_
  refine aops_go 2 60 (by kernel_rfl) ?_
  refine aops_ask 11 (.int .i64 7) 15 #[.int .i64 13] (by kernel_rfl) (by kernel_rfl) (by kernel_rfl) (by kernel_rfl) (by kernel_rfl) ?_
  refine aops_go 1 60 (by kernel_rfl) ?_
  refine aops_end (by kernel_rfl) (then_normal ?_)
  refine aw_code f6bccc_eq ?_
  refine aw_then ?_
  refine aw_code f6bccca_eq ?_
  refine aw_then ?_
  refine aw_code f6bcccaa_eq ?_
  refine aw_reg ?_
  refine aops_go 3 60 (by kernel_rfl) ?_
  refine aops_end (by kernel_rfl) (then_normal ?_)
  refine aw_code f6bcccac_eq ?_
  refine aw_cond (t := true) (by kernel_rfl) ?_
  refine aw_code f6bcccaca_eq ?_
  refine aw_reg ?_
  refine aops_go 2 60 (by kernel_rfl) ?_
  refine aops_ask 17 (.int .i64 (0 + rd % (15 - 0 + 1))) 14 #[.int .i64 rd, .int .i64 0, .int .i64 15] (by kernel_rfl) (by kernel_rfl) (by kernel_rfl) (by kernel_rfl) (orc14 rd 0 15 (i64_inB hrd (by omega) (by omega) (by omega))) ?_
  refine aops_see 17 (.int .i64 (rd % 16)) (see_int (x := (0 + rd % (15 - 0 + 1))) (by kernel_rfl) (by rw [show ((15 : Int) - 0 + 1) = 16 from rfl]; omega)) ?_
  refine aops_go 2 60 (by kernel_rfl) ?_
  refine aops_end (by kernel_rfl) (then_normal ?_)
  refine aw_code f6bcccc_eq ?_
  refine aw_then ?_
  refine aw_code f6bcccca_eq ?_
  refine aw_then ?_
  refine aw_code f6bccccaa_eq ?_
  refine aw_reg ?_
  refine aops_go 3 60 (by kernel_rfl) ?_
  refine aops_end (by kernel_rfl) (then_normal ?_)
  refine aw_code f6bccccac_eq ?_
  refine aw_cond (t := true) (by kernel_rfl) ?_
  refine aw_code f6bccccaca_eq ?_
  refine aw_reg ?_
  refine aops_go 2 60 (by kernel_rfl) ?_
  refine aops_ask 24 (.int .i64 (0 + ra % (15 - 0 + 1))) 14 #[.int .i64 ra, .int .i64 0, .int .i64 15] (by kernel_rfl) (by kernel_rfl) (by kernel_rfl) (by kernel_rfl) (orc14 ra 0 15 (i64_inB hra (by omega) (by omega) (by omega))) ?_
  refine aops_see 24 (.int .i64 (ra % 16)) (see_int (x := (0 + ra % (15 - 0 + 1))) (by kernel_rfl) (by rw [show ((15 : Int) - 0 + 1) = 16 from rfl]; omega)) ?_
  refine aops_go 2 60 (by kernel_rfl) ?_
  refine aops_end (by kernel_rfl) (then_normal ?_)
  refine aw_code f6bccccc_eq ?_
  refine aw_then ?_
  refine aw_code f6bccccca_eq ?_
  refine aw_then ?_
  refine aw_code f6bcccccaa_eq ?_
  refine aw_reg ?_
  refine aops_go 3 60 (by kernel_rfl) ?_
  refine aops_end (by kernel_rfl) (then_normal ?_)
  refine aw_code f6bcccccac_eq ?_
  refine aw_cond (t := true) (by kernel_rfl) ?_
  refine aw_code f6bcccccaca_eq ?_
  refine aw_reg ?_
  refine aops_go 2 60 (by kernel_rfl) ?_
  refine aops_ask 31 (.int .i64 (0 + rb % (15 - 0 + 1))) 14 #[.int .i64 rb, .int .i64 0, .int .i64 15] (by kernel_rfl) (by kernel_rfl) (by kernel_rfl) (by kernel_rfl) (orc14 rb 0 15 (i64_inB hrb (by omega) (by omega) (by omega))) ?_
  refine aops_see 31 (.int .i64 (rb % 16)) (see_int (x := (0 + rb % (15 - 0 + 1))) (by kernel_rfl) (by rw [show ((15 : Int) - 0 + 1) = 16 from rfl]; omega)) ?_
  refine aops_go 2 60 (by kernel_rfl) ?_
  refine aops_end (by kernel_rfl) (then_normal ?_)
  refine aw_code f6bcccccc_eq ?_
  refine aw_then ?_
  refine aw_code f6bcccccca_eq ?_
  refine aw_then ?_
  refine aw_code f6bccccccaa_eq ?_
  refine aw_reg ?_
  refine aops_go 3 60 (by kernel_rfl) ?_
  refine aops_end (by kernel_rfl) (then_normal ?_)
  refine aw_code f6bccccccac_eq ?_
  refine aw_cond (t := false) (by kernel_rfl) ?_
  refine aw_skip (then_normal ?_)
  refine aw_code f6bccccccc_eq ?_
  refine aw_then ?_
  refine aw_code f6bccccccca_eq ?_
  refine aw_reg ?_
  refine aops_go 2 60 (by kernel_rfl) ?_
  refine aops_end (by kernel_rfl) (then_normal ?_)
  refine aw_ret (bodyQ_ret ⟨.agg #[.int .i64 13, .int .i64 (rd % 16), .int .i64 (ra % 16), .int .i64 (rb % 16), .int .u32 0], (by kernel_rfl), ?_⟩)
  rw [ho]; rfl
theorem f6_14 {op rd ra rb im : Int} (hop : i64B op = true) (hrd : i64B rd = true) (hra : i64B ra = true) (hrb : i64B rb = true) (ho : op % 20 = 14) : ACall Tryd.prog T11 6 #[.agg #[.int .i64 op, .int .i64 rd, .int .i64 ra, .int .i64 rb, .int .u32 im]] ⟨.lf, 0⟩ fun r _ => r = .agg #[.int .i64 (op % 20), .int .i64 (pick0 (rdB (op % 20)) (rd % 16)), .int .i64 (pick0 (raB (op % 20)) (ra % 16)), .int .i64 (pick0 (rbB (op % 20)) (rb % 16)), .int .u32 (pick0 (imB (op % 20)) im)] := by
  refine acall_of' 40 (initTm 0 #[.agg #[.int .i64 op, .int .i64 rd, .int .i64 ra, .int .i64 rb, .int .u32 im]]) rfl f6_fn f6_body rfl rfl ?_
  refine aw_code f6b_eq ?_
  refine aw_then ?_
  refine aw_code f6ba_eq ?_
  refine aw_reg ?_
  refine aops_go 2 60 (by kernel_rfl) ?_
  refine aops_end (by kernel_rfl) (then_normal ?_)
  refine aw_code f6bc_eq ?_
  refine aw_then ?_
  refine aw_code f6bca_eq ?_
  refine aw_reg ?_
  refine aops_go 2 60 (by kernel_rfl) ?_
  refine aops_ask 7 (.int .i64 (0 + op % (19 - 0 + 1))) 14 #[.int .i64 op, .int .i64 0, .int .i64 19] (by kernel_rfl) (by kernel_rfl) (by kernel_rfl) (by kernel_rfl) (orc14 op 0 19 (i64_inB hop (by omega) (by omega) (by omega))) ?_
  refine aops_see 7 (.int .i64 14) (see_int (x := (0 + op % (19 - 0 + 1))) (by kernel_rfl) (by omega)) ?_
  refine aops_go 3 60 (by kernel_rfl) ?_
  refine aops_end (by kernel_rfl) (then_normal ?_)
  refine aw_code f6bcc_eq ?_
  refine aw_then ?_
  refine aw_code f6bcca_eq ?_
  refine aw_reg ?_
  refine aops_go 2 60 (by kernel_rfl) ?_
  refine aops_ask 11 (.int .i64 11) 15 #[.int .i64 14] (by kernel_rfl) (by kernel_rfl) (by kernel_rfl) (by kernel_rfl) (by kernel_rfl) ?_
  refine aops_go 1 60 (by kernel_rfl) ?_
  refine aops_end (by kernel_rfl) (then_normal ?_)
  refine aw_code f6bccc_eq ?_
  refine aw_then ?_
  refine aw_code f6bccca_eq ?_
  refine aw_then ?_
  refine aw_code f6bcccaa_eq ?_
  refine aw_reg ?_
  refine aops_go 3 60 (by kernel_rfl) ?_
  refine aops_end (by kernel_rfl) (then_normal ?_)
  refine aw_code f6bcccac_eq ?_
  refine aw_cond (t := true) (by kernel_rfl) ?_
  refine aw_code f6bcccaca_eq ?_
  refine aw_reg ?_
  refine aops_go 2 60 (by kernel_rfl) ?_
  refine aops_ask 17 (.int .i64 (0 + rd % (15 - 0 + 1))) 14 #[.int .i64 rd, .int .i64 0, .int .i64 15] (by kernel_rfl) (by kernel_rfl) (by kernel_rfl) (by kernel_rfl) (orc14 rd 0 15 (i64_inB hrd (by omega) (by omega) (by omega))) ?_
  refine aops_see 17 (.int .i64 (rd % 16)) (see_int (x := (0 + rd % (15 - 0 + 1))) (by kernel_rfl) (by rw [show ((15 : Int) - 0 + 1) = 16 from rfl]; omega)) ?_
  refine aops_go 2 60 (by kernel_rfl) ?_
  refine aops_end (by kernel_rfl) (then_normal ?_)
  refine aw_code f6bcccc_eq ?_
  refine aw_then ?_
  refine aw_code f6bcccca_eq ?_
  refine aw_then ?_
  refine aw_code f6bccccaa_eq ?_
  refine aw_reg ?_
  refine aops_go 3 60 (by kernel_rfl) ?_
  refine aops_end (by kernel_rfl) (then_normal ?_)
  refine aw_code f6bccccac_eq ?_
  refine aw_cond (t := true) (by kernel_rfl) ?_
  refine aw_code f6bccccaca_eq ?_
  refine aw_reg ?_
  refine aops_go 2 60 (by kernel_rfl) ?_
  refine aops_ask 24 (.int .i64 (0 + ra % (15 - 0 + 1))) 14 #[.int .i64 ra, .int .i64 0, .int .i64 15] (by kernel_rfl) (by kernel_rfl) (by kernel_rfl) (by kernel_rfl) (orc14 ra 0 15 (i64_inB hra (by omega) (by omega) (by omega))) ?_
  refine aops_see 24 (.int .i64 (ra % 16)) (see_int (x := (0 + ra % (15 - 0 + 1))) (by kernel_rfl) (by rw [show ((15 : Int) - 0 + 1) = 16 from rfl]; omega)) ?_
  refine aops_go 2 60 (by kernel_rfl) ?_
  refine aops_end (by kernel_rfl) (then_normal ?_)
  refine aw_code f6bccccc_eq ?_
  refine aw_then ?_
  refine aw_code f6bccccca_eq ?_
  refine aw_then ?_
  refine aw_code f6bcccccaa_eq ?_
  refine aw_reg ?_
  refine aops_go 3 60 (by kernel_rfl) ?_
  refine aops_end (by kernel_rfl) (then_normal ?_)
  refine aw_code f6bcccccac_eq ?_
  refine aw_cond (t := false) (by kernel_rfl) ?_
  refine aw_skip (then_normal ?_)
  refine aw_code f6bcccccc_eq ?_
  refine aw_then ?_
  refine aw_code f6bcccccca_eq ?_
  refine aw_then ?_
  refine aw_code f6bccccccaa_eq ?_
  refine aw_reg ?_
  refine aops_go 3 60 (by kernel_rfl) ?_
  refine aops_end (by kernel_rfl) (then_normal ?_)
  refine aw_code f6bccccccac_eq ?_
  refine aw_cond (t := true) (by kernel_rfl) ?_
  refine aw_code f6bccccccaca_eq ?_
  refine aw_reg ?_
  refine aops_go 4 60 (by kernel_rfl) ?_
  refine aops_end (by kernel_rfl) (then_normal ?_)
  refine aw_code f6bccccccc_eq ?_
  refine aw_then ?_
  refine aw_code f6bccccccca_eq ?_
  refine aw_reg ?_
  refine aops_go 2 60 (by kernel_rfl) ?_
  refine aops_end (by kernel_rfl) (then_normal ?_)
  refine aw_ret (bodyQ_ret ⟨.agg #[.int .i64 14, .int .i64 (rd % 16), .int .i64 (ra % 16), .int .i64 0, .int .u32 im], (by kernel_rfl), ?_⟩)
  rw [ho]; rfl
theorem f6_15 {op rd ra rb im : Int} (hop : i64B op = true) (hrd : i64B rd = true) (hra : i64B ra = true) (hrb : i64B rb = true) (ho : op % 20 = 15) : ACall Tryd.prog T11 6 #[.agg #[.int .i64 op, .int .i64 rd, .int .i64 ra, .int .i64 rb, .int .u32 im]] ⟨.lf, 0⟩ fun r _ => r = .agg #[.int .i64 (op % 20), .int .i64 (pick0 (rdB (op % 20)) (rd % 16)), .int .i64 (pick0 (raB (op % 20)) (ra % 16)), .int .i64 (pick0 (rbB (op % 20)) (rb % 16)), .int .u32 (pick0 (imB (op % 20)) im)] := by
  refine acall_of' 40 (initTm 0 #[.agg #[.int .i64 op, .int .i64 rd, .int .i64 ra, .int .i64 rb, .int .u32 im]]) rfl f6_fn f6_body rfl rfl ?_
  refine aw_code f6b_eq ?_
  refine aw_then ?_
  refine aw_code f6ba_eq ?_
  refine aw_reg ?_
  refine aops_go 2 60 (by kernel_rfl) ?_
  refine aops_end (by kernel_rfl) (then_normal ?_)
  refine aw_code f6bc_eq ?_
  refine aw_then ?_
  refine aw_code f6bca_eq ?_
  refine aw_reg ?_
  refine aops_go 2 60 (by kernel_rfl) ?_
  refine aops_ask 7 (.int .i64 (0 + op % (19 - 0 + 1))) 14 #[.int .i64 op, .int .i64 0, .int .i64 19] (by kernel_rfl) (by kernel_rfl) (by kernel_rfl) (by kernel_rfl) (orc14 op 0 19 (i64_inB hop (by omega) (by omega) (by omega))) ?_
  refine aops_see 7 (.int .i64 15) (see_int (x := (0 + op % (19 - 0 + 1))) (by kernel_rfl) (by omega)) ?_
  refine aops_go 3 60 (by kernel_rfl) ?_
  refine aops_end (by kernel_rfl) (then_normal ?_)
  refine aw_code f6bcc_eq ?_
  refine aw_then ?_
  refine aw_code f6bcca_eq ?_
  refine aw_reg ?_
  refine aops_go 2 60 (by kernel_rfl) ?_
  refine aops_ask 11 (.int .i64 14) 15 #[.int .i64 15] (by kernel_rfl) (by kernel_rfl) (by kernel_rfl) (by kernel_rfl) (by kernel_rfl) ?_
  refine aops_go 1 60 (by kernel_rfl) ?_
  refine aops_end (by kernel_rfl) (then_normal ?_)
  refine aw_code f6bccc_eq ?_
  refine aw_then ?_
  refine aw_code f6bccca_eq ?_
  refine aw_then ?_
  refine aw_code f6bcccaa_eq ?_
  refine aw_reg ?_
  refine aops_go 3 60 (by kernel_rfl) ?_
  refine aops_end (by kernel_rfl) (then_normal ?_)
  refine aw_code f6bcccac_eq ?_
  refine aw_cond (t := false) (by kernel_rfl) ?_
  refine aw_skip (then_normal ?_)
  refine aw_code f6bcccc_eq ?_
  refine aw_then ?_
  refine aw_code f6bcccca_eq ?_
  refine aw_then ?_
  refine aw_code f6bccccaa_eq ?_
  refine aw_reg ?_
  refine aops_go 3 60 (by kernel_rfl) ?_
  refine aops_end (by kernel_rfl) (then_normal ?_)
  refine aw_code f6bccccac_eq ?_
  refine aw_cond (t := true) (by kernel_rfl) ?_
  refine aw_code f6bccccaca_eq ?_
  refine aw_reg ?_
  refine aops_go 2 60 (by kernel_rfl) ?_
  refine aops_ask 24 (.int .i64 (0 + ra % (15 - 0 + 1))) 14 #[.int .i64 ra, .int .i64 0, .int .i64 15] (by kernel_rfl) (by kernel_rfl) (by kernel_rfl) (by kernel_rfl) (orc14 ra 0 15 (i64_inB hra (by omega) (by omega) (by omega))) ?_
  refine aops_see 24 (.int .i64 (ra % 16)) (see_int (x := (0 + ra % (15 - 0 + 1))) (by kernel_rfl) (by rw [show ((15 : Int) - 0 + 1) = 16 from rfl]; omega)) ?_
  refine aops_go 2 60 (by kernel_rfl) ?_
  refine aops_end (by kernel_rfl) (then_normal ?_)
  refine aw_code f6bccccc_eq ?_
  refine aw_then ?_
  refine aw_code f6bccccca_eq ?_
  refine aw_then ?_
  refine aw_code f6bcccccaa_eq ?_
  refine aw_reg ?_
  refine aops_go 3 60 (by kernel_rfl) ?_
  refine aops_end (by kernel_rfl) (then_normal ?_)
  refine aw_code f6bcccccac_eq ?_
  refine aw_cond (t := true) (by kernel_rfl) ?_
  refine aw_code f6bcccccaca_eq ?_
  refine aw_reg ?_
  refine aops_go 2 60 (by kernel_rfl) ?_
  refine aops_ask 31 (.int .i64 (0 + rb % (15 - 0 + 1))) 14 #[.int .i64 rb, .int .i64 0, .int .i64 15] (by kernel_rfl) (by kernel_rfl) (by kernel_rfl) (by kernel_rfl) (orc14 rb 0 15 (i64_inB hrb (by omega) (by omega) (by omega))) ?_
  refine aops_see 31 (.int .i64 (rb % 16)) (see_int (x := (0 + rb % (15 - 0 + 1))) (by kernel_rfl) (by rw [show ((15 : Int) - 0 + 1) = 16 from rfl]; omega)) ?_
  refine aops_go 2 60 (by kernel_rfl) ?_
  refine aops_end (by kernel_rfl) (then_normal ?_)
  refine aw_code f6bcccccc_eq ?_
  refine aw_then ?_
  refine aw_code f6bcccccca_eq ?_
  refine aw_then ?_
  refine aw_code f6bccccccaa_eq ?_
  refine aw_reg ?_
  refine aops_go 3 60 (by kernel_rfl) ?_
  refine aops_end (by kernel_rfl) (then_normal ?_)
  refine aw_code f6bccccccac_eq ?_
  refine aw_cond (t := true) (by kernel_rfl) ?_
  refine aw_code f6bccccccaca_eq ?_
  refine aw_reg ?_
  refine aops_go 4 60 (by kernel_rfl) ?_
  refine aops_end (by kernel_rfl) (then_normal ?_)
  refine aw_code f6bccccccc_eq ?_
  refine aw_then ?_
  refine aw_code f6bccccccca_eq ?_
  refine aw_reg ?_
  refine aops_go 2 60 (by kernel_rfl) ?_
  refine aops_end (by kernel_rfl) (then_normal ?_)
  refine aw_ret (bodyQ_ret ⟨.agg #[.int .i64 15, .int .i64 0, .int .i64 (ra % 16), .int .i64 (rb % 16), .int .u32 im], (by kernel_rfl), ?_⟩)
  rw [ho]; rfl
theorem f6_16 {op rd ra rb im : Int} (hop : i64B op = true) (hrd : i64B rd = true) (hra : i64B ra = true) (hrb : i64B rb = true) (ho : op % 20 = 16) : ACall Tryd.prog T11 6 #[.agg #[.int .i64 op, .int .i64 rd, .int .i64 ra, .int .i64 rb, .int .u32 im]] ⟨.lf, 0⟩ fun r _ => r = .agg #[.int .i64 (op % 20), .int .i64 (pick0 (rdB (op % 20)) (rd % 16)), .int .i64 (pick0 (raB (op % 20)) (ra % 16)), .int .i64 (pick0 (rbB (op % 20)) (rb % 16)), .int .u32 (pick0 (imB (op % 20)) im)] := by
  refine acall_of' 40 (initTm 0 #[.agg #[.int .i64 op, .int .i64 rd, .int .i64 ra, .int .i64 rb, .int .u32 im]]) rfl f6_fn f6_body rfl rfl ?_
  refine aw_code f6b_eq ?_
  refine aw_then ?_
  refine aw_code f6ba_eq ?_
  refine aw_reg ?_
  refine aops_go 2 60 (by kernel_rfl) ?_
  refine aops_end (by kernel_rfl) (then_normal ?_)
  refine aw_code f6bc_eq ?_
  refine aw_then ?_
  refine aw_code f6bca_eq ?_
  refine aw_reg ?_
  refine aops_go 2 60 (by kernel_rfl) ?_
  refine aops_ask 7 (.int .i64 (0 + op % (19 - 0 + 1))) 14 #[.int .i64 op, .int .i64 0, .int .i64 19] (by kernel_rfl) (by kernel_rfl) (by kernel_rfl) (by kernel_rfl) (orc14 op 0 19 (i64_inB hop (by omega) (by omega) (by omega))) ?_
  refine aops_see 7 (.int .i64 16) (see_int (x := (0 + op % (19 - 0 + 1))) (by kernel_rfl) (by omega)) ?_
  refine aops_go 3 60 (by kernel_rfl) ?_
  refine aops_end (by kernel_rfl) (then_normal ?_)
  refine aw_code f6bcc_eq ?_
  refine aw_then ?_
  refine aw_code f6bcca_eq ?_
  refine aw_reg ?_
  refine aops_go 2 60 (by kernel_rfl) ?_
  refine aops_ask 11 (.int .i64 10) 15 #[.int .i64 16] (by kernel_rfl) (by kernel_rfl) (by kernel_rfl) (by kernel_rfl) (by kernel_rfl) ?_
  refine aops_go 1 60 (by kernel_rfl) ?_
  refine aops_end (by kernel_rfl) (then_normal ?_)
  refine aw_code f6bccc_eq ?_
  refine aw_then ?_
  refine aw_code f6bccca_eq ?_
  refine aw_then ?_
  refine aw_code f6bcccaa_eq ?_
  refine aw_reg ?_
  refine aops_go 3 60 (by kernel_rfl) ?_
  refine aops_end (by kernel_rfl) (then_normal ?_)
  refine aw_code f6bcccac_eq ?_
  refine aw_cond (t := false) (by kernel_rfl) ?_
  refine aw_skip (then_normal ?_)
  refine aw_code f6bcccc_eq ?_
  refine aw_then ?_
  refine aw_code f6bcccca_eq ?_
  refine aw_then ?_
  refine aw_code f6bccccaa_eq ?_
  refine aw_reg ?_
  refine aops_go 3 60 (by kernel_rfl) ?_
  refine aops_end (by kernel_rfl) (then_normal ?_)
  refine aw_code f6bccccac_eq ?_
  refine aw_cond (t := true) (by kernel_rfl) ?_
  refine aw_code f6bccccaca_eq ?_
  refine aw_reg ?_
  refine aops_go 2 60 (by kernel_rfl) ?_
  refine aops_ask 24 (.int .i64 (0 + ra % (15 - 0 + 1))) 14 #[.int .i64 ra, .int .i64 0, .int .i64 15] (by kernel_rfl) (by kernel_rfl) (by kernel_rfl) (by kernel_rfl) (orc14 ra 0 15 (i64_inB hra (by omega) (by omega) (by omega))) ?_
  refine aops_see 24 (.int .i64 (ra % 16)) (see_int (x := (0 + ra % (15 - 0 + 1))) (by kernel_rfl) (by rw [show ((15 : Int) - 0 + 1) = 16 from rfl]; omega)) ?_
  refine aops_go 2 60 (by kernel_rfl) ?_
  refine aops_end (by kernel_rfl) (then_normal ?_)
  refine aw_code f6bccccc_eq ?_
  refine aw_then ?_
  refine aw_code f6bccccca_eq ?_
  refine aw_then ?_
  refine aw_code f6bcccccaa_eq ?_
  refine aw_reg ?_
  refine aops_go 3 60 (by kernel_rfl) ?_
  refine aops_end (by kernel_rfl) (then_normal ?_)
  refine aw_code f6bcccccac_eq ?_
  refine aw_cond (t := false) (by kernel_rfl) ?_
  refine aw_skip (then_normal ?_)
  refine aw_code f6bcccccc_eq ?_
  refine aw_then ?_
  refine aw_code f6bcccccca_eq ?_
  refine aw_then ?_
  refine aw_code f6bccccccaa_eq ?_
  refine aw_reg ?_
  refine aops_go 3 60 (by kernel_rfl) ?_
  refine aops_end (by kernel_rfl) (then_normal ?_)
  refine aw_code f6bccccccac_eq ?_
  refine aw_cond (t := true) (by kernel_rfl) ?_
  refine aw_code f6bccccccaca_eq ?_
  refine aw_reg ?_
  refine aops_go 4 60 (by kernel_rfl) ?_
  refine aops_end (by kernel_rfl) (then_normal ?_)
  refine aw_code f6bccccccc_eq ?_
  refine aw_then ?_
  refine aw_code f6bccccccca_eq ?_
  refine aw_reg ?_
  refine aops_go 2 60 (by kernel_rfl) ?_
  refine aops_end (by kernel_rfl) (then_normal ?_)
  refine aw_ret (bodyQ_ret ⟨.agg #[.int .i64 16, .int .i64 0, .int .i64 (ra % 16), .int .i64 0, .int .u32 im], (by kernel_rfl), ?_⟩)
  rw [ho]; rfl
theorem f6_17 {op rd ra rb im : Int} (hop : i64B op = true) (hrd : i64B rd = true) (hra : i64B ra = true) (hrb : i64B rb = true) (ho : op % 20 = 17) : ACall Tryd.prog T11 6 #[.agg #[.int .i64 op, .int .i64 rd, .int .i64 ra, .int .i64 rb, .int .u32 im]] ⟨.lf, 0⟩ fun r _ => r = .agg #[.int .i64 (op % 20), .int .i64 (pick0 (rdB (op % 20)) (rd % 16)), .int .i64 (pick0 (raB (op % 20)) (ra % 16)), .int .i64 (pick0 (rbB (op % 20)) (rb % 16)), .int .u32 (pick0 (imB (op % 20)) im)] := by
  refine acall_of' 40 (initTm 0 #[.agg #[.int .i64 op, .int .i64 rd, .int .i64 ra, .int .i64 rb, .int .u32 im]]) rfl f6_fn f6_body rfl rfl ?_
  refine aw_code f6b_eq ?_
  refine aw_then ?_
  refine aw_code f6ba_eq ?_
  refine aw_reg ?_
  refine aops_go 2 60 (by kernel_rfl) ?_
  refine aops_end (by kernel_rfl) (then_normal ?_)
  refine aw_code f6bc_eq ?_
  refine aw_then ?_
  refine aw_code f6bca_eq ?_
  refine aw_reg ?_
  refine aops_go 2 60 (by kernel_rfl) ?_
  refine aops_ask 7 (.int .i64 (0 + op % (19 - 0 + 1))) 14 #[.int .i64 op, .int .i64 0, .int .i64 19] (by kernel_rfl) (by kernel_rfl) (by kernel_rfl) (by kernel_rfl) (orc14 op 0 19 (i64_inB hop (by omega) (by omega) (by omega))) ?_
  refine aops_see 7 (.int .i64 17) (see_int (x := (0 + op % (19 - 0 + 1))) (by kernel_rfl) (by omega)) ?_
  refine aops_go 3 60 (by kernel_rfl) ?_
  refine aops_end (by kernel_rfl) (then_normal ?_)
  refine aw_code f6bcc_eq ?_
  refine aw_then ?_
  refine aw_code f6bcca_eq ?_
  refine aw_reg ?_
  refine aops_go 2 60 (by kernel_rfl) ?_
  refine aops_ask 11 (.int .i64 10) 15 #[.int .i64 17] (by kernel_rfl) (by kernel_rfl) (by kernel_rfl) (by kernel_rfl) (by kernel_rfl) ?_
  refine aops_go 1 60 (by kernel_rfl) ?_
  refine aops_end (by kernel_rfl) (then_normal ?_)
  refine aw_code f6bccc_eq ?_
  refine aw_then ?_
  refine aw_code f6bccca_eq ?_
  refine aw_then ?_
  refine aw_code f6bcccaa_eq ?_
  refine aw_reg ?_
  refine aops_go 3 60 (by kernel_rfl) ?_
  refine aops_end (by kernel_rfl) (then_normal ?_)
  refine aw_code f6bcccac_eq ?_
  refine aw_cond (t := false) (by kernel_rfl) ?_
  refine aw_skip (then_normal ?_)
  refine aw_code f6bcccc_eq ?_
  refine aw_then ?_
  refine aw_code f6bcccca_eq ?_
  refine aw_then ?_
  refine aw_code f6bccccaa_eq ?_
  refine aw_reg ?_
  refine aops_go 3 60 (by kernel_rfl) ?_
  refine aops_end (by kernel_rfl) (then_normal ?_)
  refine aw_code f6bccccac_eq ?_
  refine aw_cond (t := true) (by kernel_rfl) ?_
  refine aw_code f6bccccaca_eq ?_
  refine aw_reg ?_
  refine aops_go 2 60 (by kernel_rfl) ?_
  refine aops_ask 24 (.int .i64 (0 + ra % (15 - 0 + 1))) 14 #[.int .i64 ra, .int .i64 0, .int .i64 15] (by kernel_rfl) (by kernel_rfl) (by kernel_rfl) (by kernel_rfl) (orc14 ra 0 15 (i64_inB hra (by omega) (by omega) (by omega))) ?_
  refine aops_see 24 (.int .i64 (ra % 16)) (see_int (x := (0 + ra % (15 - 0 + 1))) (by kernel_rfl) (by rw [show ((15 : Int) - 0 + 1) = 16 from rfl]; omega)) ?_
  refine aops_go 2 60 (by kernel_rfl) ?_
  refine aops_end (by kernel_rfl) (then_normal ?_)
  refine aw_code f6bccccc_eq ?_
  refine aw_then ?_
  refine aw_code f6bccccca_eq ?_
  refine aw_then ?_
  refine aw_code f6bcccccaa_eq ?_
  refine aw_reg ?_
  refine aops_go 3 60 (by kernel_rfl) ?_
  refine aops_end (by kernel_rfl) (then_normal ?_)
  refine aw_code f6bcccccac_eq ?_
  refine aw_cond (t := false) (by kernel_rfl) ?_
  refine aw_skip (then_normal ?_)
  refine aw_code f6bcccccc_eq ?_
  refine aw_then ?_
  refine aw_code f6bcccccca_eq ?_
  refine aw_then ?_
  refine aw_code f6bccccccaa_eq ?_
  refine aw_reg ?_
  refine aops_go 3 60 (by kernel_rfl) ?_
  refine aops_end (by kernel_rfl) (then_normal ?_)
  refine aw_code f6bccccccac_eq ?_
  refine aw_cond (t := true) (by kernel_rfl) ?_
  refine aw_code f6bccccccaca_eq ?_
  refine aw_reg ?_
  refine aops_go 4 60 (by kernel_rfl) ?_
  refine aops_end (by kernel_rfl) (then_normal ?_)
  refine aw_code f6bccccccc_eq ?_
  refine aw_then ?_
  refine aw_code f6bccccccca_eq ?_
  refine aw_reg ?_
  refine aops_go 2 60 (by kernel_rfl) ?_
  refine aops_end (by kernel_rfl) (then_normal ?_)
  refine aw_ret (bodyQ_ret ⟨.agg #[.int .i64 17, .int .i64 0, .int .i64 (ra % 16), .int .i64 0, .int .u32 im], (by kernel_rfl), ?_⟩)
  rw [ho]; rfl
theorem f6_18 {op rd ra rb im : Int} (hop : i64B op = true) (hrd : i64B rd = true) (hra : i64B ra = true) (hrb : i64B rb = true) (ho : op % 20 = 18) : ACall Tryd.prog T11 6 #[.agg #[.int .i64 op, .int .i64 rd, .int .i64 ra, .int .i64 rb, .int .u32 im]] ⟨.lf, 0⟩ fun r _ => r = .agg #[.int .i64 (op % 20), .int .i64 (pick0 (rdB (op % 20)) (rd % 16)), .int .i64 (pick0 (raB (op % 20)) (ra % 16)), .int .i64 (pick0 (rbB (op % 20)) (rb % 16)), .int .u32 (pick0 (imB (op % 20)) im)] := by
  refine acall_of' 40 (initTm 0 #[.agg #[.int .i64 op, .int .i64 rd, .int .i64 ra, .int .i64 rb, .int .u32 im]]) rfl f6_fn f6_body rfl rfl ?_
  refine aw_code f6b_eq ?_
  refine aw_then ?_
  refine aw_code f6ba_eq ?_
  refine aw_reg ?_
  refine aops_go 2 60 (by kernel_rfl) ?_
  refine aops_end (by kernel_rfl) (then_normal ?_)
  refine aw_code f6bc_eq ?_
  refine aw_then ?_
  refine aw_code f6bca_eq ?_
  refine aw_reg ?_
  refine aops_go 2 60 (by kernel_rfl) ?_
  refine aops_ask 7 (.int .i64 (0 + op % (19 - 0 + 1))) 14 #[.int .i64 op, .int .i64 0, .int .i64 19] (by kernel_rfl) (by kernel_rfl) (by kernel_rfl) (by kernel_rfl) (orc14 op 0 19 (i64_inB hop (by omega) (by omega) (by omega))) ?_
  refine aops_see 7 (.int .i64 18) (see_int (x := (0 + op % (19 - 0 + 1))) (by kernel_rfl) (by omega)) ?_
  refine aops_go 3 60 (by kernel_rfl) ?_
  refine aops_end (by kernel_rfl) (then_normal ?_)
  refine aw_code f6bcc_eq ?_
  refine aw_then ?_
  refine aw_code f6bcca_eq ?_
  refine aw_reg ?_
  refine aops_go 2 60 (by kernel_rfl) ?_
  refine aops_ask 11 (.int .i64 8) 15 #[.int .i64 18] (by kernel_rfl) (by kernel_rfl) (by kernel_rfl) (by kernel_rfl) (by kernel_rfl) ?_
  refine aops_go 1 60 (by kernel_rfl) ?_
  refine aops_end (by kernel_rfl) (then_normal ?_)
  refine aw_code f6bccc_eq ?_
  refine aw_then ?_
  refine aw_code f6bccca_eq ?_
  refine aw_then ?_
  refine aw_code f6bcccaa_eq ?_
  refine aw_reg ?_
  refine aops_go 3 60 (by kernel_rfl) ?_
  refine aops_end (by kernel_rfl) (then_normal ?_)
  refine aw_code f6bcccac_eq ?_
  refine aw_cond (t := false) (by kernel_rfl) ?_
  refine aw_skip (then_normal ?_)
  refine aw_code f6bcccc_eq ?_
  refine aw_then ?_
  refine aw_code f6bcccca_eq ?_
  refine aw_then ?_
  refine aw_code f6bccccaa_eq ?_
  refine aw_reg ?_
  refine aops_go 3 60 (by kernel_rfl) ?_
  refine aops_end (by kernel_rfl) (then_normal ?_)
  refine aw_code f6bccccac_eq ?_
  refine aw_cond (t := false) (by kernel_rfl) ?_
  refine aw_skip (then_normal ?_)
  refine aw_code f6bccccc_eq ?_
  refine aw_then ?_
  refine aw_code f6bccccca_eq ?_
  refine aw_then ?_
  refine aw_code f6bcccccaa_eq ?_
  refine aw_reg ?_
  refine aops_go 3 60 (by kernel_rfl) ?_
  refine aops_end (by kernel_rfl) (then_normal ?_)
  refine aw_code f6bcccccac_eq ?_
  refine aw_cond (t := false) (by kernel_rfl) ?_
  refine aw_skip (then_normal ?_)
  refine aw_code f6bcccccc_eq ?_
  refine aw_then ?_
  refine aw_code f6bcccccca_eq ?_
  refine aw_then ?_
  refine aw_code f6bccccccaa_eq ?_
  refine aw_reg ?_
  refine aops_go 3 60 (by kernel_rfl) ?_
  refine aops_end (by kernel_rfl) (then_normal ?_)
  refine aw_code f6bccccccac_eq ?_
  refine aw_cond (t := true) (by kernel_rfl) ?_
  refine aw_code f6bccccccaca_eq ?_
  refine aw_reg ?_
  refine aops_go 4 60 (by kernel_rfl) ?_
  refine aops_end (by kernel_rfl) (then_normal ?_)
  refine aw_code f6bccccccc_eq ?_
  refine aw_then ?_
  refine aw_code f6bccccccca_eq ?_
  refine aw_reg ?_
  refine aops_go 2 60 (by kernel_rfl) ?_
  refine aops_end (by kernel_rfl) (then_normal ?_)
  refine aw_ret (bodyQ_ret ⟨.agg #[.int .i64 18, .int .i64 0, .int .i64 0, .int .i64 0, .int .u32 im], (by kernel_rfl), ?_⟩)
  rw [ho]; rfl
theorem f6_19 {op rd ra rb im : Int} (hop : i64B op = true) (hrd : i64B rd = true) (hra : i64B ra = true) (hrb : i64B rb = true) (ho : op % 20 = 19) : ACall Tryd.prog T11 6 #[.agg #[.int .i64 op, .int .i64 rd, .int .i64 ra, .int .i64 rb, .int .u32 im]] ⟨.lf, 0⟩ fun r _ => r = .agg #[.int .i64 (op % 20), .int .i64 (pick0 (rdB (op % 20)) (rd % 16)), .int .i64 (pick0 (raB (op % 20)) (ra % 16)), .int .i64 (pick0 (rbB (op % 20)) (rb % 16)), .int .u32 (pick0 (imB (op % 20)) im)] := by
  refine acall_of' 40 (initTm 0 #[.agg #[.int .i64 op, .int .i64 rd, .int .i64 ra, .int .i64 rb, .int .u32 im]]) rfl f6_fn f6_body rfl rfl ?_
  refine aw_code f6b_eq ?_
  refine aw_then ?_
  refine aw_code f6ba_eq ?_
  refine aw_reg ?_
  refine aops_go 2 60 (by kernel_rfl) ?_
  refine aops_end (by kernel_rfl) (then_normal ?_)
  refine aw_code f6bc_eq ?_
  refine aw_then ?_
  refine aw_code f6bca_eq ?_
  refine aw_reg ?_
  refine aops_go 2 60 (by kernel_rfl) ?_
  refine aops_ask 7 (.int .i64 (0 + op % (19 - 0 + 1))) 14 #[.int .i64 op, .int .i64 0, .int .i64 19] (by kernel_rfl) (by kernel_rfl) (by kernel_rfl) (by kernel_rfl) (orc14 op 0 19 (i64_inB hop (by omega) (by omega) (by omega))) ?_
  refine aops_see 7 (.int .i64 19) (see_int (x := (0 + op % (19 - 0 + 1))) (by kernel_rfl) (by omega)) ?_
  refine aops_go 3 60 (by kernel_rfl) ?_
  refine aops_end (by kernel_rfl) (then_normal ?_)
  refine aw_code f6bcc_eq ?_
  refine aw_then ?_
  refine aw_code f6bcca_eq ?_
  refine aw_reg ?_
  refine aops_go 2 60 (by kernel_rfl) ?_
  refine aops_ask 11 (.int .i64 8) 15 #[.int .i64 19] (by kernel_rfl) (by kernel_rfl) (by kernel_rfl) (by kernel_rfl) (by kernel_rfl) ?_
  refine aops_go 1 60 (by kernel_rfl) ?_
  refine aops_end (by kernel_rfl) (then_normal ?_)
  refine aw_code f6bccc_eq ?_
  refine aw_then ?_
  refine aw_code f6bccca_eq ?_
  refine aw_then ?_
  refine aw_code f6bcccaa_eq ?_
  refine aw_reg ?_
  refine aops_go 3 60 (by kernel_rfl) ?_
  refine aops_end (by kernel_rfl) (then_normal ?_)
  refine aw_code f6bcccac_eq ?_
  refine aw_cond (t := false) (by kernel_rfl) ?_
  refine aw_skip (then_normal ?_)
  refine aw_code f6bcccc_eq ?_
  refine aw_then ?_
  refine aw_code f6bcccca_eq ?_
  refine aw_then ?_
  refine aw_code f6bccccaa_eq ?_
  refine aw_reg ?_
  refine aops_go 3 60 (by kernel_rfl) ?_
  refine aops_end (by kernel_rfl) (then_normal ?_)
  refine aw_code f6bccccac_eq ?_
  refine aw_cond (t := false) (by kernel_rfl) ?_
  refine aw_skip (then_normal ?_)
  refine aw_code f6bccccc_eq ?_
  refine aw_then ?_
  refine aw_code f6bccccca_eq ?_
  refine aw_then ?_
  refine aw_code f6bcccccaa_eq ?_
  refine aw_reg ?_
  refine aops_go 3 60 (by kernel_rfl) ?_
  refine aops_end (by kernel_rfl) (then_normal ?_)
  refine aw_code f6bcccccac_eq ?_
  refine aw_cond (t := false) (by kernel_rfl) ?_
  refine aw_skip (then_normal ?_)
  refine aw_code f6bcccccc_eq ?_
  refine aw_then ?_
  refine aw_code f6bcccccca_eq ?_
  refine aw_then ?_
  refine aw_code f6bccccccaa_eq ?_
  refine aw_reg ?_
  refine aops_go 3 60 (by kernel_rfl) ?_
  refine aops_end (by kernel_rfl) (then_normal ?_)
  refine aw_code f6bccccccac_eq ?_
  refine aw_cond (t := true) (by kernel_rfl) ?_
  refine aw_code f6bccccccaca_eq ?_
  refine aw_reg ?_
  refine aops_go 4 60 (by kernel_rfl) ?_
  refine aops_end (by kernel_rfl) (then_normal ?_)
  refine aw_code f6bccccccc_eq ?_
  refine aw_then ?_
  refine aw_code f6bccccccca_eq ?_
  refine aw_reg ?_
  refine aops_go 2 60 (by kernel_rfl) ?_
  refine aops_end (by kernel_rfl) (then_normal ?_)
  refine aw_ret (bodyQ_ret ⟨.agg #[.int .i64 19, .int .i64 0, .int .i64 0, .int .i64 0, .int .u32 im], (by kernel_rfl), ?_⟩)
  rw [ho]; rfl
def insB (op rd ra rb im : Int) : Bool := i64B op && i64B rd && i64B ra && i64B rb && u32B im
theorem insB_of {op rd ra rb im : Int} (h : insB op rd ra rb im = true) : i64B op = true ∧ i64B rd = true ∧ i64B ra = true ∧ i64B rb = true ∧ u32B im = true := by
  simp only [insB, Bool.and_eq_true] at h; exact ⟨h.1.1.1.1, h.1.1.1.2, h.1.1.2, h.1.2, h.2⟩
theorem f6_any {op rd ra rb im : Int} (h : insB op rd ra rb im = true) : ACall Tryd.prog T11 6 #[.agg #[.int .i64 op, .int .i64 rd, .int .i64 ra, .int .i64 rb, .int .u32 im]] ⟨.lf, 0⟩ fun r _ => r = .agg #[.int .i64 (op % 20), .int .i64 (pick0 (rdB (op % 20)) (rd % 16)), .int .i64 (pick0 (raB (op % 20)) (ra % 16)), .int .i64 (pick0 (rbB (op % 20)) (rb % 16)), .int .u32 (pick0 (imB (op % 20)) im)] := by
  obtain ⟨h1, h2, h3, h4, h5⟩ := insB_of h
  rcases (by omega : op % 20 = 0 ∨ op % 20 = 1 ∨ op % 20 = 2 ∨ op % 20 = 3 ∨ op % 20 = 4 ∨ op % 20 = 5 ∨ op % 20 = 6 ∨ op % 20 = 7 ∨ op % 20 = 8 ∨ op % 20 = 9 ∨ op % 20 = 10 ∨ op % 20 = 11 ∨ op % 20 = 12 ∨ op % 20 = 13 ∨ op % 20 = 14 ∨ op % 20 = 15 ∨ op % 20 = 16 ∨ op % 20 = 17 ∨ op % 20 = 18 ∨ op % 20 = 19) with ho | ho | ho | ho | ho | ho | ho | ho | ho | ho | ho | ho | ho | ho | ho | ho | ho | ho | ho | ho
  · exact f6_0 h1 h2 h3 h4 ho
  · exact f6_1 h1 h2 h3 h4 ho
  · exact f6_2 h1 h2 h3 h4 ho
  · exact f6_3 h1 h2 h3 h4 ho
  · exact f6_4 h1 h2 h3 h4 ho
  · exact f6_5 h1 h2 h3 h4 ho
  · exact f6_6 h1 h2 h3 h4 ho
  · exact f6_7 h1 h2 h3 h4 ho
  · exact f6_8 h1 h2 h3 h4 ho
  · exact f6_9 h1 h2 h3 h4 ho
  · exact f6_10 h1 h2 h3 h4 ho
  · exact f6_11 h1 h2 h3 h4 ho
  · exact f6_12 h1 h2 h3 h4 ho
  · exact f6_13 h1 h2 h3 h4 ho
  · exact f6_14 h1 h2 h3 h4 ho
  · exact f6_15 h1 h2 h3 h4 ho
  · exact f6_16 h1 h2 h3 h4 ho
  · exact f6_17 h1 h2 h3 h4 ho
  · exact f6_18 h1 h2 h3 h4 ho
  · exact f6_19 h1 h2 h3 h4 ho
def sp6 : List Value → Option Value
  | [.agg a] => match a.toList with
    | [.int .i64 op, .int .i64 rd, .int .i64 ra, .int .i64 rb, .int .u32 im] => bif insB op rd ra rb im then some (.agg #[.int .i64 (op % 20), .int .i64 (pick0 (rdB (op % 20)) (rd % 16)), .int .i64 (pick0 (raB (op % 20)) (ra % 16)), .int .i64 (pick0 (rbB (op % 20)) (rb % 16)), .int .u32 (pick0 (imB (op % 20)) im)]) else none
    | _ => none
  | _ => none
noncomputable def T12 : Tab := { T11 with orc := addOrc T11.orc 6 sp6 }
theorem progOk12 [Bs] [Tb] : ProgOk Tryd.prog T12 := progOk11.know 6 sp6 fun args v h => by
  unfold sp6 at h
  split at h
  · rename_i a
    split at h
    · rename_i op rd ra rb im e
      cases hb : (insB op rd ra rb im)
      · rw [hb] at h; cases h
      · rw [hb] at h; cases h
        have : a = #[.int .i64 op, .int .i64 rd, .int .i64 ra, .int .i64 rb, .int .u32 im] := Array.ext' e
        subst this
        exact ⟨rfl, rfl, f6_any hb⟩
    · cases h
  · cases h
theorem orc6 (op rd ra rb im : Int) (h : insB op rd ra rb im = true) : sp6 [.agg #[.int .i64 op, .int .i64 rd, .int .i64 ra, .int .i64 rb, .int .u32 im]] = some (.agg #[.int .i64 (op % 20), .int .i64 (pick0 (rdB (op % 20)) (rd % 16)), .int .i64 (pick0 (raB (op % 20)) (ra % 16)), .int .i64 (pick0 (rbB (op % 20)) (rb % 16)), .int .u32 (pick0 (imB (op % 20)) im)]) := by
  simp only [sp6, h, cond_true]
theorem made_right (op rd ra rb im : Int) : rightV (op % 20) (pick0 (rdB (op % 20)) (rd % 16)) (pick0 (raB (op % 20)) (ra % 16)) (pick0 (rbB (op % 20)) (rb % 16)) (pick0 (imB (op % 20)) im) = true := by
  have hok : ∀ (b : Bool) (x : Int), okB b (pick0 b (x % 16)) = true := by
    intro b x
    cases b
    · rfl
    · have h1 : 0 ≤ x % 16 := by omega
      have h2 : x % 16 < 16 := by omega
      simp [okB, regV, pick0, h1, h2]
  have hin : inT (op % 20) = true := by simp [inT]; omega
  have him : (imB (op % 20) || pick0 (imB (op % 20)) im == 0) = true := by cases imB (op % 20) <;> rfl
  simp only [rightV, hok, hin, him, Bool.and_self]
theorem pick0_i64 (b : Bool) (x : Int) : i64B (pick0 b (x % 16)) = true := by
  cases b
  · rfl
  · have e : pick0 true (x % 16) = x % 16 := rfl
    rw [e]
    simp only [i64B, Bool.and_eq_true, decide_eq_true_eq]
    omega
theorem pick0_u32 (b : Bool) {x : Int} (h : u32B x = true) : u32B (pick0 b x) = true := by
  cases b
  · rfl
  · exact h
theorem made_ins {op rd ra rb im : Int} (h : insB op rd ra rb im = true) : insB (op % 20) (pick0 (rdB (op % 20)) (rd % 16)) (pick0 (raB (op % 20)) (ra % 16)) (pick0 (rbB (op % 20)) (rb % 16)) (pick0 (imB (op % 20)) im) = true := by
  obtain ⟨h1, h2, h3, h4, h5⟩ := insB_of h
  have h6 : i64B (op % 20) = true := by simp only [i64B, Bool.and_eq_true, decide_eq_true_eq]; omega
  simp only [insB, pick0_i64, pick0_u32 _ h5, h6, Bool.and_self]
theorem known_run : answers (.bool true) (evCall Tryd.prog T12 60 10 #[] ⟨.lf, 0⟩) = true := by kernel_rfl
def sp10 : List Value → Option Value
  | [] => some (.bool true)
  | _ => none
noncomputable def T13 : Tab := { T12 with orc := addOrc T12.orc 10 sp10 }
theorem progOk13 [Bs] [Tb] : ProgOk Tryd.prog T13 := progOk12.know 10 sp10 fun args v h => by
  unfold sp10 at h
  split at h
  · cases h; exact ⟨rfl, rfl, acall_answers known_run⟩
  · cases h
def enc8 (op rd ra rb im : Int) : List Value := [.int .u8 (IntKind.u8.wrap op), .int .u8 (IntKind.u8.wrap rd), .int .u8 (IntKind.u8.wrap ra), .int .u8 (IntKind.u8.wrap rb), .int .u8 (IntKind.u8.wrap im), .int .u8 (IntKind.u8.wrap (Int.fdiv im 256)), .int .u8 (IntKind.u8.wrap (Int.fdiv im 65536)), .int .u8 (IntKind.u8.wrap (Int.fdiv im 16777216))]
noncomputable def f22b : Code := Tryd.f22.body.getD .skip
noncomputable def f22ba : Code := cl f22b
noncomputable def f22bao : Array Oper := opsOf f22ba
noncomputable def f22bc : Code := cr f22b
noncomputable def f22bca : Code := cl f22bc
noncomputable def f22bcao : Array Oper := opsOf f22bca
noncomputable def f22bcc : Code := cr f22bc
noncomputable def f22bcca : Code := cl f22bcc
noncomputable def f22bccaa : Code := cl f22bcca
noncomputable def f22bccaao : Array Oper := opsOf f22bccaa
noncomputable def f22bccac : Code := cr f22bcca
noncomputable def f22bccaca : Code := cl f22bccac
noncomputable def f22bccacaa : Code := cl f22bccaca
noncomputable def f22bccacaaa : Code := cl f22bccacaa
noncomputable def f22bccacaaao : Array Oper := opsOf f22bccacaaa
noncomputable def f22bccacaac : Code := cr f22bccacaa
noncomputable def f22bccacaaca : Code := cl f22bccacaac
noncomputable def f22bccacaacc : Code := cr f22bccacaac
noncomputable def f22bccacaacca : Code := cl f22bccacaacc
noncomputable def f22bccacaaccaa : Code := cl f22bccacaacca
noncomputable def f22bccacaaccaaa : Code := cl f22bccacaaccaa
noncomputable def f22bccacaaccaaao : Array Oper := opsOf f22bccacaaccaaa
noncomputable def f22bccacaaccaac : Code := cr f22bccacaaccaa
noncomputable def f22bccacaaccaaca : Code := cl f22bccacaaccaac
noncomputable def f22bccacaaccaacaa : Code := cl f22bccacaaccaaca
noncomputable def f22bccacaaccaacaao : Array Oper := opsOf f22bccacaaccaacaa
noncomputable def f22bccacaaccaacac : Code := cr f22bccacaaccaaca
noncomputable def f22bccacaaccaacaca : Code := cl f22bccacaaccaacac
noncomputable def f22bccacaaccaacacaa : Code := cl f22bccacaaccaacaca
noncomputable def f22bccacaaccaacacaao : Array Oper := opsOf f22bccacaaccaacacaa
noncomputable def f22bccacaaccaacc : Code := cr f22bccacaaccaac
noncomputable def f22bccacaaccaacco : Array Oper := opsOf f22bccacaaccaacc
noncomputable def f22bccacaaccc : Code := cr f22bccacaacc
noncomputable def f22bccacaaccco : Array Oper := opsOf f22bccacaaccc
noncomputable def f22bccc : Code := cr f22bcc
noncomputable def f22bccca : Code := cl f22bccc
noncomputable def f22bcccao : Array Oper := opsOf f22bccca
theorem f22ba_eq : f22ba = .region 0 f22bao false := by kernel_rfl
theorem f22bca_eq : f22bca = .region 1 f22bcao false := by kernel_rfl
theorem f22bccaa_eq : f22bccaa = .region 2 f22bccaao false := by kernel_rfl
theorem f22bccacaaa_eq : f22bccacaaa = .region 3 f22bccacaaao false := by kernel_rfl
theorem f22bccacaaca_eq : f22bccacaaca = .cond (cop f22bccacaaca) .skip (.exit 0) := by kernel_rfl
theorem f22bccacaaccaaa_eq : f22bccacaaccaaa = .region 4 f22bccacaaccaaao false := by kernel_rfl
theorem f22bccacaaccaacaa_eq : f22bccacaaccaacaa = .region 5 f22bccacaaccaacaao false := by kernel_rfl
theorem f22bccacaaccaacacaa_eq : f22bccacaaccaacacaa = .region 6 f22bccacaaccaacacaao false := by kernel_rfl
theorem f22bccacaaccaacaca_eq : f22bccacaaccaacaca = .seq f22bccacaaccaacacaa .ret := by kernel_rfl
theorem f22bccacaaccaacac_eq : f22bccacaaccaacac = .cond (cop f22bccacaaccaacac) f22bccacaaccaacaca .skip := by kernel_rfl
theorem f22bccacaaccaaca_eq : f22bccacaaccaaca = .seq f22bccacaaccaacaa f22bccacaaccaacac := by kernel_rfl
theorem f22bccacaaccaacc_eq : f22bccacaaccaacc = .region 7 f22bccacaaccaacco false := by kernel_rfl
theorem f22bccacaaccaac_eq : f22bccacaaccaac = .seq f22bccacaaccaaca f22bccacaaccaacc := by kernel_rfl
theorem f22bccacaaccaa_eq : f22bccacaaccaa = .seq f22bccacaaccaaa f22bccacaaccaac := by kernel_rfl
theorem f22bccacaacca_eq : f22bccacaacca = .block 1 f22bccacaaccaa := by kernel_rfl
theorem f22bccacaaccc_eq : f22bccacaaccc = .region 8 f22bccacaaccco false := by kernel_rfl
theorem f22bccacaacc_eq : f22bccacaacc = .seq f22bccacaacca f22bccacaaccc := by kernel_rfl
theorem f22bccacaac_eq : f22bccacaac = .seq f22bccacaaca f22bccacaacc := by kernel_rfl
theorem f22bccacaa_eq : f22bccacaa = .seq f22bccacaaa f22bccacaac := by kernel_rfl
theorem f22bccaca_eq : f22bccaca = .loop f22bccacaa := by kernel_rfl
theorem f22bccac_eq : f22bccac = .block 0 f22bccaca := by kernel_rfl
theorem f22bcca_eq : f22bcca = .seq f22bccaa f22bccac := by kernel_rfl
theorem f22bccca_eq : f22bccca = .region 9 f22bcccao false := by kernel_rfl
theorem f22bccc_eq : f22bccc = .seq f22bccca .ret := by kernel_rfl
theorem f22bcc_eq : f22bcc = .seq f22bcca f22bccc := by kernel_rfl
theorem f22bc_eq : f22bc = .seq f22bca f22bcc := by kernel_rfl
theorem f22b_eq : f22b = .seq f22ba f22bc := by kernel_rfl
theorem f22_body : Tryd.f22.body = some f22b := by kernel_rfl
theorem f22_fn : T13.fn 22 = some Tryd.f22 := by kernel_rfl
noncomputable def f12b : Code := Tryd.f12.body.getD .skip
noncomputable def f12ba : Code := cl f12b
noncomputable def f12bao : Array Oper := opsOf f12ba
noncomputable def f12bc : Code := cr f12b
noncomputable def f12bca : Code := cl f12bc
noncomputable def f12bcao : Array Oper := opsOf f12bca
theorem f12ba_eq : f12ba = .region 0 f12bao false := by kernel_rfl
theorem f12bca_eq : f12bca = .region 1 f12bcao false := by kernel_rfl
theorem f12bc_eq : f12bc = .seq f12bca .ret := by kernel_rfl
theorem f12b_eq : f12b = .seq f12ba f12bc := by kernel_rfl
theorem f12_body : Tryd.f12.body = some f12b := by kernel_rfl
theorem f12_fn : T13.fn 12 = some Tryd.f12 := by kernel_rfl
theorem join1_ok {op rd ra rb im : Int} {H : Heap} {A : Nat} (gA : H.get A = some ⟨[.int .i64 op, .int .i64 rd, .int .i64 ra, .int .i64 rb, .int .u32 im], 24, false⟩) (hA : A < H.n) (hr : rightV op rd ra rb im = true) : ACall Tryd.prog T13 22 #[.slice (some ⟨A, 0, none⟩) 1 1] H fun r H' => ∃ B, r = .tuple #[.slice (some ⟨B, 0, none⟩) 8 (unk + 1), .int .i64 0] ∧ H'.get B = some ⟨enc8 op rd ra rb im, 5, false⟩ ∧ B < H'.n ∧ H.n ≤ B ∧ Up H.n H H' := by
  refine acall_of' 48 (initTm 0 #[.slice (some ⟨A, 0, none⟩) 1 1]) rfl f22_fn f22_body rfl rfl ?_
  refine aw_code f22b_eq ?_
  refine aw_then ?_
  refine aw_code f22ba_eq ?_
  refine aw_reg ?_
  refine aops_go 2 60 (by kernel_rfl) ?_
  refine aops_end (by kernel_rfl) (then_normal ?_)
  refine aw_code f22bc_eq ?_
  refine aw_then ?_
  refine aw_code f22bca_eq ?_
  refine aw_reg ?_
  refine aops_go 1 60 (by kernel_rfl) ?_
  refine aops_end (by kernel_rfl) (then_normal ?_)
  refine aw_code f22bcc_eq ?_
  refine aw_then ?_
  refine aw_code f22bcca_eq ?_
  refine aw_then ?_
  refine aw_code f22bccaa_eq ?_
  refine aw_reg ?_
  refine aops_go 3 60 (by kernel_rfl) ?_
  refine aops_end (by kernel_rfl) (then_normal ?_)
  refine aw_code f22bccac_eq ?_
  refine aw_block ?_
  refine aw_code f22bccaca_eq ?_
  refine aw_loop_k fun K1_ hK1_ => ?_
  refine aw_code f22bccacaa_eq ?_
  refine aw_then ?_
  refine aw_code f22bccacaaa_eq ?_
  refine aw_reg ?_
  refine aops_go 1 60 (by kernel_rfl) ?_
  refine aops_end (by kernel_rfl) (then_normal ?_)
  refine aw_code f22bccacaac_eq ?_
  refine aw_then ?_
  refine aw_code f22bccacaaca_eq ?_
  refine aw_cond (t := true) (by kernel_rfl) ?_
  refine aw_skip (then_normal ?_)
  refine aw_code f22bccacaacc_eq ?_
  refine aw_then ?_
  refine aw_code f22bccacaacca_eq ?_
  refine aw_block ?_
  refine aw_code f22bccacaaccaa_eq ?_
  refine aw_then ?_
  refine aw_code f22bccacaaccaaa_eq ?_
  refine aw_reg ?_
  refine aops_go 1 60 (by kernel_rfl) ?_
  refine aops_val 12 (.agg #[.int .i64 op, .int .i64 rd, .int .i64 ra, .int .i64 rb, .int .u32 im]) H (by kernel_rfl) (by kernel_rfl) (by kernel_rfl) ((by kernel_rfl : _ = val (aload T13 24 (.pointer (some ⟨A, 0, none⟩)) H) H).trans (val_of ((aload_at gA).trans (by kernel_rfl)))) ?_
  obtain ⟨H1_, hH1_⟩ : ∃ x : Heap, x = H.push ⟨[Value.int .i64 0, .int .i64 0, .int .i64 0, .int .i64 0, .int .u32 0], 24, false⟩ := ⟨_, rfl⟩
  have nH1_ : H1_.n = H.n + 1 := by rw [hH1_]; rfl
  refine aops_val 6 (.pointer (some ⟨H.n, 0, none⟩)) H1_ (by kernel_rfl) (by kernel_rfl) (by kernel_rfl) ((by kernel_rfl : _ = some (Res.val (.pointer (some ⟨H.n, 0, none⟩)), H.push ⟨[Value.int .i64 0, .int .i64 0, .int .i64 0, .int .i64 0, .int .u32 0], 24, false⟩)).trans (by rw [← hH1_])) ?_
  have gH1_H_n : H1_.get (H.n) = some ⟨[Value.int .i64 0, .int .i64 0, .int .i64 0, .int .i64 0, .int .u32 0], 24, false⟩ := by rw [hH1_]; exact (Heap.get_push _ _ _).trans (if_pos rfl)
  obtain ⟨H2_, hH2_⟩ : ∃ x : Heap, x = H1_.put (H.n) ⟨[Value.int .i64 op, .int .i64 rd, .int .i64 ra, .int .i64 rb, .int .u32 im], 24, false⟩ := ⟨_, rfl⟩
  have nH2_ : H2_.n = H1_.n := by rw [hH2_]; rfl
  refine aops_skip H2_ (by kernel_rfl) (by kernel_rfl) (by kernel_rfl) ((by kernel_rfl : _ = skp (astore T13 24 (.pointer (some ⟨H.n, 0, none⟩)) (.agg #[.int .i64 op, .int .i64 rd, .int .i64 ra, .int .i64 rb, .int .u32 im]) H1_)).trans (by rw [astore_to gH1_H_n (by kernel_rfl), ← hH2_]; rfl)) ?_
  refine aops_end (by kernel_rfl) (then_normal ?_)
  refine aw_code f22bccacaaccaac_eq ?_
  refine aw_then ?_
  refine aw_code f22bccacaaccaaca_eq ?_
  refine aw_then ?_
  refine aw_code f22bccacaaccaacaa_eq ?_
  refine aw_reg ?_
  have gH2_H_n : H2_.get (H.n) = some ⟨[Value.int .i64 op, .int .i64 rd, .int .i64 ra, .int .i64 rb, .int .u32 im], 24, false⟩ := by rw [hH2_]; exact (Heap.get_put _ _ _ _).trans (if_pos rfl)
  refine aops_val 13 (.agg #[.int .i64 op, .int .i64 rd, .int .i64 ra, .int .i64 rb, .int .u32 im]) H2_ (by kernel_rfl) (by kernel_rfl) (by kernel_rfl) ((by kernel_rfl : _ = val (aload T13 24 (.pointer (some ⟨H.n, 0, none⟩)) H2_) H2_).trans (val_of ((aload_at gH2_H_n).trans (by kernel_rfl)))) ?_
  refine aops_ask 14 (.bool true) 19 #[.agg #[.int .i64 op, .int .i64 rd, .int .i64 ra, .int .i64 rb, .int .u32 im]] (by kernel_rfl) (by kernel_rfl) (by kernel_rfl) (by kernel_rfl) (show some (Value.bool (rightV op rd ra rb im)) = _ by rw [hr]) ?_
  refine aops_go 1 60 (by kernel_rfl) ?_
  refine aops_end (by kernel_rfl) (then_normal ?_)
  refine aw_code f22bccacaaccaacac_eq ?_
  refine aw_cond (t := false) (by kernel_rfl) ?_
  refine aw_skip (then_normal ?_)
  refine aw_code f22bccacaaccaacc_eq ?_
  refine aw_reg ?_
  refine aops_go 2 60 (by kernel_rfl) ?_
  refine aops_val 18 (.int .i64 op) H2_ (by kernel_rfl) (by kernel_rfl) (by kernel_rfl) ((by kernel_rfl : _ = val (aload T13 3 (.pointer (some ⟨H.n, 0, none⟩)) H2_) H2_).trans (val_of ((aload_at gH2_H_n).trans (by kernel_rfl)))) ?_
  refine aops_go 2 60 (by kernel_rfl) ?_
  refine aops_val 21 (.int .i64 rd) H2_ (by kernel_rfl) (by kernel_rfl) (by kernel_rfl) ((by kernel_rfl : _ = val (aload T13 3 (.pointer (some ⟨H.n, 1, none⟩)) H2_) H2_).trans (val_of ((aload_at gH2_H_n).trans (by kernel_rfl)))) ?_
  refine aops_go 2 60 (by kernel_rfl) ?_
  refine aops_val 24 (.int .i64 ra) H2_ (by kernel_rfl) (by kernel_rfl) (by kernel_rfl) ((by kernel_rfl : _ = val (aload T13 3 (.pointer (some ⟨H.n, 2, none⟩)) H2_) H2_).trans (val_of ((aload_at gH2_H_n).trans (by kernel_rfl)))) ?_
  refine aops_go 2 60 (by kernel_rfl) ?_
  refine aops_val 27 (.int .i64 rb) H2_ (by kernel_rfl) (by kernel_rfl) (by kernel_rfl) ((by kernel_rfl : _ = val (aload T13 3 (.pointer (some ⟨H.n, 3, none⟩)) H2_) H2_).trans (val_of ((aload_at gH2_H_n).trans (by kernel_rfl)))) ?_
  refine aops_go 2 60 (by kernel_rfl) ?_
  refine aops_val 30 (.int .u32 im) H2_ (by kernel_rfl) (by kernel_rfl) (by kernel_rfl) ((by kernel_rfl : _ = val (aload T13 22 (.pointer (some ⟨H.n, 4, none⟩)) H2_) H2_).trans (val_of ((aload_at gH2_H_n).trans (by kernel_rfl)))) ?_
  refine aops_go 2 60 (by kernel_rfl) ?_
  refine aops_val 33 (.int .u32 im) H2_ (by kernel_rfl) (by kernel_rfl) (by kernel_rfl) ((by kernel_rfl : _ = val (aload T13 22 (.pointer (some ⟨H.n, 4, none⟩)) H2_) H2_).trans (val_of ((aload_at gH2_H_n).trans (by kernel_rfl)))) ?_
  refine aops_go 3 60 (by kernel_rfl) ?_
  refine aops_val 37 (.int .u32 im) H2_ (by kernel_rfl) (by kernel_rfl) (by kernel_rfl) ((by kernel_rfl : _ = val (aload T13 22 (.pointer (some ⟨H.n, 4, none⟩)) H2_) H2_).trans (val_of ((aload_at gH2_H_n).trans (by kernel_rfl)))) ?_
  refine aops_go 3 60 (by kernel_rfl) ?_
  refine aops_val 41 (.int .u32 im) H2_ (by kernel_rfl) (by kernel_rfl) (by kernel_rfl) ((by kernel_rfl : _ = val (aload T13 22 (.pointer (some ⟨H.n, 4, none⟩)) H2_) H2_).trans (val_of ((aload_at gH2_H_n).trans (by kernel_rfl)))) ?_
  refine aops_go 2 60 (by kernel_rfl) ?_
  obtain ⟨H3_, hH3_⟩ : ∃ x : Heap, x = H2_.push ⟨[Value.int .u8 (IntKind.u8.wrap op), .int .u8 (IntKind.u8.wrap rd), .int .u8 (IntKind.u8.wrap ra), .int .u8 (IntKind.u8.wrap rb), .int .u8 (IntKind.u8.wrap im), .int .u8 (IntKind.u8.wrap (Int.fdiv im 256)), .int .u8 (IntKind.u8.wrap (Int.fdiv im 65536)), .int .u8 (IntKind.u8.wrap (Int.fdiv im 16777216))], 5, false⟩ := ⟨_, rfl⟩
  have nH3_ : H3_.n = H2_.n + 1 := by rw [hH3_]; rfl
  refine aops_val 44 (.slice (some ⟨H2_.n, 0, none⟩) 8 8) H3_ (by kernel_rfl) (by kernel_rfl) (by kernel_rfl) ((by kernel_rfl : _ = some (Res.val (.slice (some ⟨H2_.n, 0, none⟩) 8 8), H2_.push ⟨[Value.int .u8 (IntKind.u8.wrap op), .int .u8 (IntKind.u8.wrap rd), .int .u8 (IntKind.u8.wrap ra), .int .u8 (IntKind.u8.wrap rb), .int .u8 (IntKind.u8.wrap im), .int .u8 (IntKind.u8.wrap (Int.fdiv im 256)), .int .u8 (IntKind.u8.wrap (Int.fdiv im 65536)), .int .u8 (IntKind.u8.wrap (Int.fdiv im 16777216))], 5, false⟩)).trans (by rw [← hH3_])) ?_
  have gH3_H2__n : H3_.get (H2_.n) = some ⟨[Value.int .u8 (IntKind.u8.wrap op), .int .u8 (IntKind.u8.wrap rd), .int .u8 (IntKind.u8.wrap ra), .int .u8 (IntKind.u8.wrap rb), .int .u8 (IntKind.u8.wrap im), .int .u8 (IntKind.u8.wrap (Int.fdiv im 256)), .int .u8 (IntKind.u8.wrap (Int.fdiv im 65536)), .int .u8 (IntKind.u8.wrap (Int.fdiv im 16777216))], 5, false⟩ := by rw [hH3_]; exact (Heap.get_push _ _ _).trans (if_pos rfl)
  obtain ⟨H4_, hH4_⟩ : ∃ x : Heap, x = H3_.push ⟨[Value.int .u8 (IntKind.u8.wrap op), .int .u8 (IntKind.u8.wrap rd), .int .u8 (IntKind.u8.wrap ra), .int .u8 (IntKind.u8.wrap rb), .int .u8 (IntKind.u8.wrap im), .int .u8 (IntKind.u8.wrap (Int.fdiv im 256)), .int .u8 (IntKind.u8.wrap (Int.fdiv im 65536)), .int .u8 (IntKind.u8.wrap (Int.fdiv im 16777216))], 5, false⟩ := ⟨_, rfl⟩
  have nH4_ : H4_.n = H3_.n + 1 := by rw [hH4_]; rfl
  refine aops_val 45 (.slice (some ⟨H3_.n, 0, none⟩) 8 (unk + 1)) H4_ (by kernel_rfl) (by kernel_rfl) (by kernel_rfl) ((by kernel_rfl : _ = val2 (aappend T13 28 28 (.slice none 0 0) (.slice (some ⟨H2_.n, 0, none⟩) 8 8) H3_)).trans (by rw [aappend_nil (e := 5) (xd := .slice 5) (s0 := 0) (by_ := 0) (z := .int .u8 0) (by kernel_rfl) (by kernel_rfl) rfl (by kernel_rfl) (by kernel_rfl) (by kernel_rfl) (asrc_blk (l := [Value.int .u8 (IntKind.u8.wrap op), .int .u8 (IntKind.u8.wrap rd), .int .u8 (IntKind.u8.wrap ra), .int .u8 (IntKind.u8.wrap rb), .int .u8 (IntKind.u8.wrap im), .int .u8 (IntKind.u8.wrap (Int.fdiv im 256)), .int .u8 (IntKind.u8.wrap (Int.fdiv im 65536)), .int .u8 (IntKind.u8.wrap (Int.fdiv im 16777216))]) gH3_H2__n rfl rfl) (by omega) (by omega), ← hH4_]; rfl)) ?_
  refine aops_go 1 60 (by kernel_rfl) ?_
  refine aops_end (by kernel_rfl) (blk_normal (then_normal ?_))
  refine aw_code f22bccacaaccc_eq ?_
  refine aw_reg ?_
  refine aops_go 2 60 (by kernel_rfl) ?_
  refine aops_end (by kernel_rfl) (then_normal (hK1_ _ ?_))
  refine aw_loop_k fun K2_ hK2_ => ?_
  refine aw_code f22bccacaa_eq ?_
  refine aw_then ?_
  refine aw_code f22bccacaaa_eq ?_
  refine aw_reg ?_
  refine aops_go 1 60 (by kernel_rfl) ?_
  refine aops_end (by kernel_rfl) (then_normal ?_)
  refine aw_code f22bccacaac_eq ?_
  refine aw_then ?_
  refine aw_code f22bccacaaca_eq ?_
  refine aw_cond (t := false) (by kernel_rfl) ?_
  refine aw_exit (then_exit (then_exit (blk_hit (then_normal ?_))))
  refine aw_code f22bccc_eq ?_
  refine aw_then ?_
  refine aw_code f22bccca_eq ?_
  refine aw_reg ?_
  refine aops_go 3 60 (by kernel_rfl) ?_
  refine aops_end (by kernel_rfl) (then_normal ?_)
  refine aw_ret (bodyQ_ret_to (.tuple #[.slice (some ⟨H3_.n, 0, none⟩) 8 (unk + 1), .int .i64 0]) H4_ (by kernel_rfl) (by kernel_rfl) ?_)
  have gH4_H3__n : H4_.get (H3_.n) = some ⟨[Value.int .u8 (IntKind.u8.wrap op), .int .u8 (IntKind.u8.wrap rd), .int .u8 (IntKind.u8.wrap ra), .int .u8 (IntKind.u8.wrap rb), .int .u8 (IntKind.u8.wrap im), .int .u8 (IntKind.u8.wrap (Int.fdiv im 256)), .int .u8 (IntKind.u8.wrap (Int.fdiv im 65536)), .int .u8 (IntKind.u8.wrap (Int.fdiv im 16777216))], 5, false⟩ := by rw [hH4_]; exact (Heap.get_push _ _ _).trans (if_pos rfl)
  exact ⟨H3_.n, rfl, gH4_H3__n, by omega, by omega, (show Up H.n H H4_ from hH4_ ▸ Up.push (by omega) ((show Up H.n H H3_ from hH3_ ▸ Up.push (by omega) ((show Up H.n H H2_ from hH2_ ▸ Up.put ((show Up H.n H H1_ from hH1_ ▸ Up.push (by omega) (Up.refl _) _)) (by omega) _)) _)) _)⟩
theorem join1_no {op rd ra rb im : Int} {H : Heap} {A : Nat} (gA : H.get A = some ⟨[.int .i64 op, .int .i64 rd, .int .i64 ra, .int .i64 rb, .int .u32 im], 24, false⟩) (hA : A < H.n) (hr : rightV op rd ra rb im = false) : ACall Tryd.prog T13 22 #[.slice (some ⟨A, 0, none⟩) 1 1] H fun r H' => r = .tuple #[.slice none 0 0, .int .i64 12] ∧ Up H.n H H' := by
  refine acall_of' 48 (initTm 0 #[.slice (some ⟨A, 0, none⟩) 1 1]) rfl f22_fn f22_body rfl rfl ?_
  refine aw_code f22b_eq ?_
  refine aw_then ?_
  refine aw_code f22ba_eq ?_
  refine aw_reg ?_
  refine aops_go 2 60 (by kernel_rfl) ?_
  refine aops_end (by kernel_rfl) (then_normal ?_)
  refine aw_code f22bc_eq ?_
  refine aw_then ?_
  refine aw_code f22bca_eq ?_
  refine aw_reg ?_
  refine aops_go 1 60 (by kernel_rfl) ?_
  refine aops_end (by kernel_rfl) (then_normal ?_)
  refine aw_code f22bcc_eq ?_
  refine aw_then ?_
  refine aw_code f22bcca_eq ?_
  refine aw_then ?_
  refine aw_code f22bccaa_eq ?_
  refine aw_reg ?_
  refine aops_go 3 60 (by kernel_rfl) ?_
  refine aops_end (by kernel_rfl) (then_normal ?_)
  refine aw_code f22bccac_eq ?_
  refine aw_block ?_
  refine aw_code f22bccaca_eq ?_
  refine aw_loop_k fun K1_ hK1_ => ?_
  refine aw_code f22bccacaa_eq ?_
  refine aw_then ?_
  refine aw_code f22bccacaaa_eq ?_
  refine aw_reg ?_
  refine aops_go 1 60 (by kernel_rfl) ?_
  refine aops_end (by kernel_rfl) (then_normal ?_)
  refine aw_code f22bccacaac_eq ?_
  refine aw_then ?_
  refine aw_code f22bccacaaca_eq ?_
  refine aw_cond (t := true) (by kernel_rfl) ?_
  refine aw_skip (then_normal ?_)
  refine aw_code f22bccacaacc_eq ?_
  refine aw_then ?_
  refine aw_code f22bccacaacca_eq ?_
  refine aw_block ?_
  refine aw_code f22bccacaaccaa_eq ?_
  refine aw_then ?_
  refine aw_code f22bccacaaccaaa_eq ?_
  refine aw_reg ?_
  refine aops_go 1 60 (by kernel_rfl) ?_
  refine aops_val 12 (.agg #[.int .i64 op, .int .i64 rd, .int .i64 ra, .int .i64 rb, .int .u32 im]) H (by kernel_rfl) (by kernel_rfl) (by kernel_rfl) ((by kernel_rfl : _ = val (aload T13 24 (.pointer (some ⟨A, 0, none⟩)) H) H).trans (val_of ((aload_at gA).trans (by kernel_rfl)))) ?_
  obtain ⟨H1_, hH1_⟩ : ∃ x : Heap, x = H.push ⟨[Value.int .i64 0, .int .i64 0, .int .i64 0, .int .i64 0, .int .u32 0], 24, false⟩ := ⟨_, rfl⟩
  have nH1_ : H1_.n = H.n + 1 := by rw [hH1_]; rfl
  refine aops_val 6 (.pointer (some ⟨H.n, 0, none⟩)) H1_ (by kernel_rfl) (by kernel_rfl) (by kernel_rfl) ((by kernel_rfl : _ = some (Res.val (.pointer (some ⟨H.n, 0, none⟩)), H.push ⟨[Value.int .i64 0, .int .i64 0, .int .i64 0, .int .i64 0, .int .u32 0], 24, false⟩)).trans (by rw [← hH1_])) ?_
  have gH1_H_n : H1_.get (H.n) = some ⟨[Value.int .i64 0, .int .i64 0, .int .i64 0, .int .i64 0, .int .u32 0], 24, false⟩ := by rw [hH1_]; exact (Heap.get_push _ _ _).trans (if_pos rfl)
  obtain ⟨H2_, hH2_⟩ : ∃ x : Heap, x = H1_.put (H.n) ⟨[Value.int .i64 op, .int .i64 rd, .int .i64 ra, .int .i64 rb, .int .u32 im], 24, false⟩ := ⟨_, rfl⟩
  have nH2_ : H2_.n = H1_.n := by rw [hH2_]; rfl
  refine aops_skip H2_ (by kernel_rfl) (by kernel_rfl) (by kernel_rfl) ((by kernel_rfl : _ = skp (astore T13 24 (.pointer (some ⟨H.n, 0, none⟩)) (.agg #[.int .i64 op, .int .i64 rd, .int .i64 ra, .int .i64 rb, .int .u32 im]) H1_)).trans (by rw [astore_to gH1_H_n (by kernel_rfl), ← hH2_]; rfl)) ?_
  refine aops_end (by kernel_rfl) (then_normal ?_)
  refine aw_code f22bccacaaccaac_eq ?_
  refine aw_then ?_
  refine aw_code f22bccacaaccaaca_eq ?_
  refine aw_then ?_
  refine aw_code f22bccacaaccaacaa_eq ?_
  refine aw_reg ?_
  have gH2_H_n : H2_.get (H.n) = some ⟨[Value.int .i64 op, .int .i64 rd, .int .i64 ra, .int .i64 rb, .int .u32 im], 24, false⟩ := by rw [hH2_]; exact (Heap.get_put _ _ _ _).trans (if_pos rfl)
  refine aops_val 13 (.agg #[.int .i64 op, .int .i64 rd, .int .i64 ra, .int .i64 rb, .int .u32 im]) H2_ (by kernel_rfl) (by kernel_rfl) (by kernel_rfl) ((by kernel_rfl : _ = val (aload T13 24 (.pointer (some ⟨H.n, 0, none⟩)) H2_) H2_).trans (val_of ((aload_at gH2_H_n).trans (by kernel_rfl)))) ?_
  refine aops_ask 14 (.bool false) 19 #[.agg #[.int .i64 op, .int .i64 rd, .int .i64 ra, .int .i64 rb, .int .u32 im]] (by kernel_rfl) (by kernel_rfl) (by kernel_rfl) (by kernel_rfl) (show some (Value.bool (rightV op rd ra rb im)) = _ by rw [hr]) ?_
  refine aops_go 1 60 (by kernel_rfl) ?_
  refine aops_end (by kernel_rfl) (then_normal ?_)
  refine aw_code f22bccacaaccaacac_eq ?_
  refine aw_cond (t := true) (by kernel_rfl) ?_
  refine aw_code f22bccacaaccaacaca_eq ?_
  refine aw_then ?_
  refine aw_code f22bccacaaccaacacaa_eq ?_
  refine aw_reg ?_
  refine aops_go 2 60 (by kernel_rfl) ?_
  refine aops_end (by kernel_rfl) (then_normal ?_)
  refine aw_ret (then_ret (blk_ret (then_ret (then_ret (blk_ret (then_ret (bodyQ_ret_to (.tuple #[.slice none 0 0, .int .i64 12]) H2_ (by kernel_rfl) (by kernel_rfl) ?_)))))))
  exact ⟨rfl, (show Up H.n H H2_ from hH2_ ▸ Up.put ((show Up H.n H H1_ from hH1_ ▸ Up.push (by omega) (Up.refl _) _)) (by omega) _)⟩
theorem enc_ok {op rd ra rb im : Int} {H : Heap} (hr : rightV op rd ra rb im = true) : ACall Tryd.prog T13 12 #[.agg #[.int .i64 op, .int .i64 rd, .int .i64 ra, .int .i64 rb, .int .u32 im]] H fun r H' => ∃ B, r = .tuple #[.slice (some ⟨B, 0, none⟩) 8 (unk + 1), .int .i64 0] ∧ H'.get B = some ⟨enc8 op rd ra rb im, 5, false⟩ ∧ B < H'.n ∧ H.n ≤ B ∧ Up H.n H H' := by
  refine acall_of' 9 (initTm 0 #[.agg #[.int .i64 op, .int .i64 rd, .int .i64 ra, .int .i64 rb, .int .u32 im]]) rfl f12_fn f12_body rfl rfl ?_
  refine aw_code f12b_eq ?_
  refine aw_then ?_
  refine aw_code f12ba_eq ?_
  refine aw_reg ?_
  obtain ⟨H1_, hH1_⟩ : ∃ x : Heap, x = H.push ⟨[Value.int .i64 op, .int .i64 rd, .int .i64 ra, .int .i64 rb, .int .u32 im], 24, false⟩ := ⟨_, rfl⟩
  have nH1_ : H1_.n = H.n + 1 := by rw [hH1_]; rfl
  refine aops_val 1 (.pointer (some ⟨H.n, 0, none⟩)) H1_ (by kernel_rfl) (by kernel_rfl) (by kernel_rfl) ((by kernel_rfl : _ = some (Res.val (.pointer (some ⟨H.n, 0, none⟩)), H.push ⟨[Value.int .i64 op, .int .i64 rd, .int .i64 ra, .int .i64 rb, .int .u32 im], 24, false⟩)).trans (by rw [← hH1_])) ?_
  refine aops_go 2 60 (by kernel_rfl) ?_
  refine aops_end (by kernel_rfl) (then_normal ?_)
  refine aw_code f12bc_eq ?_
  refine aw_then ?_
  refine aw_code f12bca_eq ?_
  refine aw_reg ?_
  have gH1_H_n : H1_.get (H.n) = some ⟨[Value.int .i64 op, .int .i64 rd, .int .i64 ra, .int .i64 rb, .int .u32 im], 24, false⟩ := by rw [hH1_]; exact (Heap.get_push _ _ _).trans (if_pos rfl)
  refine aops_val 4 (.agg #[.int .i64 op, .int .i64 rd, .int .i64 ra, .int .i64 rb, .int .u32 im]) H1_ (by kernel_rfl) (by kernel_rfl) (by kernel_rfl) ((by kernel_rfl : _ = val (aload T13 24 (.pointer (some ⟨H.n, 0, none⟩)) H1_) H1_).trans (val_of ((aload_at gH1_H_n).trans (by kernel_rfl)))) ?_
  obtain ⟨H2_, hH2_⟩ : ∃ x : Heap, x = H1_.push ⟨[Value.int .i64 op, .int .i64 rd, .int .i64 ra, .int .i64 rb, .int .u32 im], 24, false⟩ := ⟨_, rfl⟩
  have nH2_ : H2_.n = H1_.n + 1 := by rw [hH2_]; rfl
  refine aops_val 5 (.slice (some ⟨H1_.n, 0, none⟩) 1 1) H2_ (by kernel_rfl) (by kernel_rfl) (by kernel_rfl) ((by kernel_rfl : _ = some (Res.val (.slice (some ⟨H1_.n, 0, none⟩) 1 1), H1_.push ⟨[Value.int .i64 op, .int .i64 rd, .int .i64 ra, .int .i64 rb, .int .u32 im], 24, false⟩)).trans (by rw [← hH2_])) ?_
  have gH2_H1__n : H2_.get (H1_.n) = some ⟨[Value.int .i64 op, .int .i64 rd, .int .i64 ra, .int .i64 rb, .int .u32 im], 24, false⟩ := by rw [hH2_]; exact (Heap.get_push _ _ _).trans (if_pos rfl)
  refine aops_call_to 6 22 #[.slice (some ⟨H1_.n, 0, none⟩) 1 1] H2_ (by kernel_rfl) (by kernel_rfl) (fun v => (by kernel_rfl)) (by kernel_rfl) (by kernel_rfl) (join1_ok gH2_H1__n (by omega) hr) ?_
  rintro _ H3_ ⟨B, rfl, gB, hB, hB2, uH3_⟩
  have nH3_ := uH3_.n
  refine aops_go 4 60 (by kernel_rfl) ?_
  refine aops_end (by kernel_rfl) (then_normal ?_)
  refine aw_ret (bodyQ_ret_to (.tuple #[.slice (some ⟨B, 0, none⟩) 8 (unk + 1), .int .i64 0]) H3_ (by kernel_rfl) (by kernel_rfl) ?_)
  exact ⟨B, rfl, gB, hB, by omega, (Up.trans ((show Up H.n H H2_ from hH2_ ▸ Up.push (by omega) ((show Up H.n H H1_ from hH1_ ▸ Up.push (by omega) (Up.refl _) _)) _)) (uH3_.mono (by omega)))⟩
theorem enc_no {op rd ra rb im : Int} {H : Heap} (hr : rightV op rd ra rb im = false) : ACall Tryd.prog T13 12 #[.agg #[.int .i64 op, .int .i64 rd, .int .i64 ra, .int .i64 rb, .int .u32 im]] H fun r H' => r = .tuple #[.slice none 0 0, .int .i64 12] ∧ Up H.n H H' := by
  refine acall_of' 9 (initTm 0 #[.agg #[.int .i64 op, .int .i64 rd, .int .i64 ra, .int .i64 rb, .int .u32 im]]) rfl f12_fn f12_body rfl rfl ?_
  refine aw_code f12b_eq ?_
  refine aw_then ?_
  refine aw_code f12ba_eq ?_
  refine aw_reg ?_
  obtain ⟨H1_, hH1_⟩ : ∃ x : Heap, x = H.push ⟨[Value.int .i64 op, .int .i64 rd, .int .i64 ra, .int .i64 rb, .int .u32 im], 24, false⟩ := ⟨_, rfl⟩
  have nH1_ : H1_.n = H.n + 1 := by rw [hH1_]; rfl
  refine aops_val 1 (.pointer (some ⟨H.n, 0, none⟩)) H1_ (by kernel_rfl) (by kernel_rfl) (by kernel_rfl) ((by kernel_rfl : _ = some (Res.val (.pointer (some ⟨H.n, 0, none⟩)), H.push ⟨[Value.int .i64 op, .int .i64 rd, .int .i64 ra, .int .i64 rb, .int .u32 im], 24, false⟩)).trans (by rw [← hH1_])) ?_
  refine aops_go 2 60 (by kernel_rfl) ?_
  refine aops_end (by kernel_rfl) (then_normal ?_)
  refine aw_code f12bc_eq ?_
  refine aw_then ?_
  refine aw_code f12bca_eq ?_
  refine aw_reg ?_
  have gH1_H_n : H1_.get (H.n) = some ⟨[Value.int .i64 op, .int .i64 rd, .int .i64 ra, .int .i64 rb, .int .u32 im], 24, false⟩ := by rw [hH1_]; exact (Heap.get_push _ _ _).trans (if_pos rfl)
  refine aops_val 4 (.agg #[.int .i64 op, .int .i64 rd, .int .i64 ra, .int .i64 rb, .int .u32 im]) H1_ (by kernel_rfl) (by kernel_rfl) (by kernel_rfl) ((by kernel_rfl : _ = val (aload T13 24 (.pointer (some ⟨H.n, 0, none⟩)) H1_) H1_).trans (val_of ((aload_at gH1_H_n).trans (by kernel_rfl)))) ?_
  obtain ⟨H2_, hH2_⟩ : ∃ x : Heap, x = H1_.push ⟨[Value.int .i64 op, .int .i64 rd, .int .i64 ra, .int .i64 rb, .int .u32 im], 24, false⟩ := ⟨_, rfl⟩
  have nH2_ : H2_.n = H1_.n + 1 := by rw [hH2_]; rfl
  refine aops_val 5 (.slice (some ⟨H1_.n, 0, none⟩) 1 1) H2_ (by kernel_rfl) (by kernel_rfl) (by kernel_rfl) ((by kernel_rfl : _ = some (Res.val (.slice (some ⟨H1_.n, 0, none⟩) 1 1), H1_.push ⟨[Value.int .i64 op, .int .i64 rd, .int .i64 ra, .int .i64 rb, .int .u32 im], 24, false⟩)).trans (by rw [← hH2_])) ?_
  have gH2_H1__n : H2_.get (H1_.n) = some ⟨[Value.int .i64 op, .int .i64 rd, .int .i64 ra, .int .i64 rb, .int .u32 im], 24, false⟩ := by rw [hH2_]; exact (Heap.get_push _ _ _).trans (if_pos rfl)
  refine aops_call_to 6 22 #[.slice (some ⟨H1_.n, 0, none⟩) 1 1] H2_ (by kernel_rfl) (by kernel_rfl) (fun v => (by kernel_rfl)) (by kernel_rfl) (by kernel_rfl) (join1_no gH2_H1__n (by omega) hr) ?_
  rintro _ H3_ ⟨rfl, uH3_⟩
  have nH3_ := uH3_.n
  refine aops_go 4 60 (by kernel_rfl) ?_
  refine aops_end (by kernel_rfl) (then_normal ?_)
  refine aw_ret (bodyQ_ret_to (.tuple #[.slice none 0 0, .int .i64 12]) H3_ (by kernel_rfl) (by kernel_rfl) ?_)
  exact ⟨rfl, (Up.trans ((show Up H.n H H2_ from hH2_ ▸ Up.push (by omega) ((show Up H.n H H1_ from hH1_ ▸ Up.push (by omega) (Up.refl _) _)) _)) (uH3_.mono (by omega)))⟩
noncomputable def f9b : Code := Tryd.f9.body.getD .skip
noncomputable def f9ba : Code := cl f9b
noncomputable def f9bao : Array Oper := opsOf f9ba
noncomputable def f9bc : Code := cr f9b
noncomputable def f9bca : Code := cl f9bc
noncomputable def f9bcao : Array Oper := opsOf f9bca
theorem f9ba_eq : f9ba = .region 0 f9bao false := by kernel_rfl
theorem f9bca_eq : f9bca = .region 1 f9bcao false := by kernel_rfl
theorem f9bc_eq : f9bc = .seq f9bca .ret := by kernel_rfl
theorem f9b_eq : f9b = .seq f9ba f9bc := by kernel_rfl
theorem f9_body : Tryd.f9.body = some f9b := by kernel_rfl
theorem f9_fn : T13.fn 9 = some Tryd.f9 := by kernel_rfl
theorem renc {op rd ra rb im : Int} {H : Heap} : ACall Tryd.prog T13 9 #[.agg #[.int .i64 op, .int .i64 rd, .int .i64 ra, .int .i64 rb, .int .u32 im]] H fun r H' => ∃ B, r = .slice (some ⟨B, 0, none⟩) 8 8 ∧ H'.get B = some ⟨enc8 op rd ra rb im, 5, false⟩ ∧ B < H'.n ∧ H.n ≤ B ∧ Up H.n H H' := by
  refine acall_of' 31 (initTm 0 #[.agg #[.int .i64 op, .int .i64 rd, .int .i64 ra, .int .i64 rb, .int .u32 im]]) rfl f9_fn f9_body rfl rfl ?_
  refine aw_code f9b_eq ?_
  refine aw_then ?_
  refine aw_code f9ba_eq ?_
  refine aw_reg ?_
  obtain ⟨H1_, hH1_⟩ : ∃ x : Heap, x = H.push ⟨[Value.int .i64 op, .int .i64 rd, .int .i64 ra, .int .i64 rb, .int .u32 im], 24, false⟩ := ⟨_, rfl⟩
  have nH1_ : H1_.n = H.n + 1 := by rw [hH1_]; rfl
  refine aops_val 1 (.pointer (some ⟨H.n, 0, none⟩)) H1_ (by kernel_rfl) (by kernel_rfl) (by kernel_rfl) ((by kernel_rfl : _ = some (Res.val (.pointer (some ⟨H.n, 0, none⟩)), H.push ⟨[Value.int .i64 op, .int .i64 rd, .int .i64 ra, .int .i64 rb, .int .u32 im], 24, false⟩)).trans (by rw [← hH1_])) ?_
  refine aops_go 1 60 (by kernel_rfl) ?_
  refine aops_end (by kernel_rfl) (then_normal ?_)
  refine aw_code f9bc_eq ?_
  refine aw_then ?_
  refine aw_code f9bca_eq ?_
  refine aw_reg ?_
  refine aops_go 1 60 (by kernel_rfl) ?_
  have gH1_H_n : H1_.get (H.n) = some ⟨[Value.int .i64 op, .int .i64 rd, .int .i64 ra, .int .i64 rb, .int .u32 im], 24, false⟩ := by rw [hH1_]; exact (Heap.get_push _ _ _).trans (if_pos rfl)
  refine aops_val 4 (.int .i64 op) H1_ (by kernel_rfl) (by kernel_rfl) (by kernel_rfl) ((by kernel_rfl : _ = val (aload T13 3 (.pointer (some ⟨H.n, 0, none⟩)) H1_) H1_).trans (val_of ((aload_at gH1_H_n).trans (by kernel_rfl)))) ?_
  refine aops_go 2 60 (by kernel_rfl) ?_
  refine aops_val 7 (.int .i64 rd) H1_ (by kernel_rfl) (by kernel_rfl) (by kernel_rfl) ((by kernel_rfl : _ = val (aload T13 3 (.pointer (some ⟨H.n, 1, none⟩)) H1_) H1_).trans (val_of ((aload_at gH1_H_n).trans (by kernel_rfl)))) ?_
  refine aops_go 2 60 (by kernel_rfl) ?_
  refine aops_val 10 (.int .i64 ra) H1_ (by kernel_rfl) (by kernel_rfl) (by kernel_rfl) ((by kernel_rfl : _ = val (aload T13 3 (.pointer (some ⟨H.n, 2, none⟩)) H1_) H1_).trans (val_of ((aload_at gH1_H_n).trans (by kernel_rfl)))) ?_
  refine aops_go 2 60 (by kernel_rfl) ?_
  refine aops_val 13 (.int .i64 rb) H1_ (by kernel_rfl) (by kernel_rfl) (by kernel_rfl) ((by kernel_rfl : _ = val (aload T13 3 (.pointer (some ⟨H.n, 3, none⟩)) H1_) H1_).trans (val_of ((aload_at gH1_H_n).trans (by kernel_rfl)))) ?_
  refine aops_go 2 60 (by kernel_rfl) ?_
  refine aops_val 16 (.int .u32 im) H1_ (by kernel_rfl) (by kernel_rfl) (by kernel_rfl) ((by kernel_rfl : _ = val (aload T13 22 (.pointer (some ⟨H.n, 4, none⟩)) H1_) H1_).trans (val_of ((aload_at gH1_H_n).trans (by kernel_rfl)))) ?_
  refine aops_go 2 60 (by kernel_rfl) ?_
  refine aops_val 19 (.int .u32 im) H1_ (by kernel_rfl) (by kernel_rfl) (by kernel_rfl) ((by kernel_rfl : _ = val (aload T13 22 (.pointer (some ⟨H.n, 4, none⟩)) H1_) H1_).trans (val_of ((aload_at gH1_H_n).trans (by kernel_rfl)))) ?_
  refine aops_go 3 60 (by kernel_rfl) ?_
  refine aops_val 23 (.int .u32 im) H1_ (by kernel_rfl) (by kernel_rfl) (by kernel_rfl) ((by kernel_rfl : _ = val (aload T13 22 (.pointer (some ⟨H.n, 4, none⟩)) H1_) H1_).trans (val_of ((aload_at gH1_H_n).trans (by kernel_rfl)))) ?_
  refine aops_go 3 60 (by kernel_rfl) ?_
  refine aops_val 27 (.int .u32 im) H1_ (by kernel_rfl) (by kernel_rfl) (by kernel_rfl) ((by kernel_rfl : _ = val (aload T13 22 (.pointer (some ⟨H.n, 4, none⟩)) H1_) H1_).trans (val_of ((aload_at gH1_H_n).trans (by kernel_rfl)))) ?_
  refine aops_go 2 60 (by kernel_rfl) ?_
  obtain ⟨H2_, hH2_⟩ : ∃ x : Heap, x = H1_.push ⟨[Value.int .u8 (IntKind.u8.wrap op), .int .u8 (IntKind.u8.wrap rd), .int .u8 (IntKind.u8.wrap ra), .int .u8 (IntKind.u8.wrap rb), .int .u8 (IntKind.u8.wrap im), .int .u8 (IntKind.u8.wrap (Int.fdiv im 256)), .int .u8 (IntKind.u8.wrap (Int.fdiv im 65536)), .int .u8 (IntKind.u8.wrap (Int.fdiv im 16777216))], 5, false⟩ := ⟨_, rfl⟩
  have nH2_ : H2_.n = H1_.n + 1 := by rw [hH2_]; rfl
  refine aops_val 30 (.slice (some ⟨H1_.n, 0, none⟩) 8 8) H2_ (by kernel_rfl) (by kernel_rfl) (by kernel_rfl) ((by kernel_rfl : _ = some (Res.val (.slice (some ⟨H1_.n, 0, none⟩) 8 8), H1_.push ⟨[Value.int .u8 (IntKind.u8.wrap op), .int .u8 (IntKind.u8.wrap rd), .int .u8 (IntKind.u8.wrap ra), .int .u8 (IntKind.u8.wrap rb), .int .u8 (IntKind.u8.wrap im), .int .u8 (IntKind.u8.wrap (Int.fdiv im 256)), .int .u8 (IntKind.u8.wrap (Int.fdiv im 65536)), .int .u8 (IntKind.u8.wrap (Int.fdiv im 16777216))], 5, false⟩)).trans (by rw [← hH2_])) ?_
  refine aops_go 1 60 (by kernel_rfl) ?_
  refine aops_end (by kernel_rfl) (then_normal ?_)
  refine aw_ret (bodyQ_ret_to (.slice (some ⟨H1_.n, 0, none⟩) 8 8) H2_ (by kernel_rfl) (by kernel_rfl) ?_)
  have gH2_H1__n : H2_.get (H1_.n) = some ⟨[Value.int .u8 (IntKind.u8.wrap op), .int .u8 (IntKind.u8.wrap rd), .int .u8 (IntKind.u8.wrap ra), .int .u8 (IntKind.u8.wrap rb), .int .u8 (IntKind.u8.wrap im), .int .u8 (IntKind.u8.wrap (Int.fdiv im 256)), .int .u8 (IntKind.u8.wrap (Int.fdiv im 65536)), .int .u8 (IntKind.u8.wrap (Int.fdiv im 16777216))], 5, false⟩ := by rw [hH2_]; exact (Heap.get_push _ _ _).trans (if_pos rfl)
  exact ⟨H1_.n, rfl, gH2_H1__n, by omega, by omega, (show Up H.n H H2_ from hH2_ ▸ Up.push (by omega) ((show Up H.n H H1_ from hH1_ ▸ Up.push (by omega) (Up.refl _) _)) _)⟩
end Hc
end Go.Proofs.YtndjckfnggnddaaDoor
