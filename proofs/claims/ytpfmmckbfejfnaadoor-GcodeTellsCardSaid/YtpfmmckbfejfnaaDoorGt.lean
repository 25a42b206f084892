/- Chapter 2: same answers true. -/
import Derived.Test.YtpfmmckbfejfnaaDoorGs
namespace Go.Proofs.YtpfmmckbfejfnaaDoor
open Go Go.Ev Go.RowKit
set_option linter.unusedVariables false
set_option linter.unusedSimpArgs false
set_option maxRecDepth 100000
namespace Gc
theorem orc30 (n : Int) (h : u32B n = true) : sp30 [.int .u32 n] = some (.string (dec n)) := by
  simp only [sp30, h, cond_true]
noncomputable def f9b : Code := Tryd.f9.body.getD .skip
noncomputable def f9ba : Code := cl f9b
noncomputable def f9bao : Array Oper := opsOf f9ba
noncomputable def f9bc : Code := cr f9b
noncomputable def f9bca : Code := cl f9bc
noncomputable def f9bcao : Array Oper := opsOf f9bca
noncomputable def f9bcc : Code := cr f9bc
noncomputable def f9bcca : Code := cl f9bcc
noncomputable def f9bccao : Array Oper := opsOf f9bcca
noncomputable def f9bccc : Code := cr f9bcc
noncomputable def f9bccca : Code := cl f9bccc
noncomputable def f9bcccao : Array Oper := opsOf f9bccca
noncomputable def f9bcccc : Code := cr f9bccc
noncomputable def f9bcccca : Code := cl f9bcccc
noncomputable def f9bccccaa : Code := cl f9bcccca
noncomputable def f9bccccaao : Array Oper := opsOf f9bccccaa
noncomputable def f9bccccac : Code := cr f9bcccca
noncomputable def f9bccccaca : Code := cl f9bccccac
noncomputable def f9bccccacaa : Code := cl f9bccccaca
noncomputable def f9bccccacaao : Array Oper := opsOf f9bccccacaa
noncomputable def f9bccccacac : Code := cr f9bccccaca
noncomputable def f9bccccacaca : Code := cl f9bccccacac
noncomputable def f9bccccacacao : Array Oper := opsOf f9bccccacaca
noncomputable def f9bccccacacc : Code := cr f9bccccacac
noncomputable def f9bccccacacca : Code := cl f9bccccacacc
noncomputable def f9bccccacaccao : Array Oper := opsOf f9bccccacacca
noncomputable def f9bccccc : Code := cr f9bcccc
noncomputable def f9bccccca : Code := cl f9bccccc
noncomputable def f9bcccccaa : Code := cl f9bccccca
noncomputable def f9bcccccaao : Array Oper := opsOf f9bcccccaa
noncomputable def f9bcccccac : Code := cr f9bccccca
noncomputable def f9bcccccaca : Code := cl f9bcccccac
noncomputable def f9bcccccacaa : Code := cl f9bcccccaca
noncomputable def f9bcccccacaao : Array Oper := opsOf f9bcccccacaa
noncomputable def f9bcccccc : Code := cr f9bccccc
noncomputable def f9bcccccca : Code := cl f9bcccccc
noncomputable def f9bccccccao : Array Oper := opsOf f9bcccccca
theorem f9ba_eq : f9ba = .region 0 f9bao false := by kernel_rfl
theorem f9bca_eq : f9bca = .region 1 f9bcao false := by kernel_rfl
theorem f9bcca_eq : f9bcca = .region 2 f9bccao false := by kernel_rfl
theorem f9bccca_eq : f9bccca = .region 3 f9bcccao false := by kernel_rfl
theorem f9bccccaa_eq : f9bccccaa = .region 4 f9bccccaao false := by kernel_rfl
theorem f9bccccacaa_eq : f9bccccacaa = .region 5 f9bccccacaao false := by kernel_rfl
theorem f9bccccacaca_eq : f9bccccacaca = .region 6 f9bccccacacao false := by kernel_rfl
theorem f9bccccacacca_eq : f9bccccacacca = .region 7 f9bccccacaccao false := by kernel_rfl
theorem f9bccccacacc_eq : f9bccccacacc = .cond (cop f9bccccacacc) f9bccccacacca .skip := by kernel_rfl
theorem f9bccccacac_eq : f9bccccacac = .seq f9bccccacaca f9bccccacacc := by kernel_rfl
theorem f9bccccaca_eq : f9bccccaca = .seq f9bccccacaa f9bccccacac := by kernel_rfl
theorem f9bccccac_eq : f9bccccac = .cond (cop f9bccccac) f9bccccaca .skip := by kernel_rfl
theorem f9bcccca_eq : f9bcccca = .seq f9bccccaa f9bccccac := by kernel_rfl
theorem f9bcccccaa_eq : f9bcccccaa = .region 8 f9bcccccaao true := by kernel_rfl
theorem f9bcccccacaa_eq : f9bcccccacaa = .region 9 f9bcccccacaao false := by kernel_rfl
theorem f9bcccccaca_eq : f9bcccccaca = .seq f9bcccccacaa .ret := by kernel_rfl
theorem f9bcccccac_eq : f9bcccccac = .cond (cop f9bcccccac) f9bcccccaca .skip := by kernel_rfl
theorem f9bccccca_eq : f9bccccca = .seq f9bcccccaa f9bcccccac := by kernel_rfl
theorem f9bcccccca_eq : f9bcccccca = .region 10 f9bccccccao true := by kernel_rfl
theorem f9bcccccc_eq : f9bcccccc = .seq f9bcccccca .ret := by kernel_rfl
theorem f9bccccc_eq : f9bccccc = .seq f9bccccca f9bcccccc := by kernel_rfl
theorem f9bcccc_eq : f9bcccc = .seq f9bcccca f9bccccc := by kernel_rfl
theorem f9bccc_eq : f9bccc = .seq f9bccca f9bcccc := by kernel_rfl
theorem f9bcc_eq : f9bcc = .seq f9bcca f9bccc := by kernel_rfl
theorem f9bc_eq : f9bc = .seq f9bca f9bcc := by kernel_rfl
theorem f9b_eq : f9b = .seq f9ba f9bc := by kernel_rfl
theorem f9_body : Tryd.f9.body = some f9b := by kernel_rfl
theorem f9_fn : T20.fn 9 = some Tryd.f9 := by kernel_rfl
set_option maxHeartbeats 1000000 in
theorem same_no {op N : Int} {H : Heap} (hN0 : u32B N = true) (hr : rightV op N = false) : ACall Tryd.prog T20 9 #[.agg #[.int .i64 op, .int .u32 N]] H fun r H' => r = .bool true ∧ Up H.n H H' := by
  refine acall_of' 102 (initTm 0 #[.agg #[.int .i64 op, .int .u32 N]]) rfl f9_fn f9_body rfl rfl ?_
  refine aw_code f9b_eq ?_
  refine aw_then ?_
  refine aw_code f9ba_eq ?_
  refine aw_reg ?_
  obtain ⟨H1_, hH1_⟩ : ∃ x : Heap, x = H.push ⟨[Value.int .i64 op, .int .u32 N], 26, false⟩ := ⟨_, rfl⟩
  have nH1_ : H1_.n = H.n + 1 := by rw [hH1_]; rfl
  refine aops_val 1 (.pointer (some ⟨H.n, 0, none⟩)) H1_ (by kernel_rfl) (by kernel_rfl) (by kernel_rfl) ((by kernel_rfl : _ = some (Res.val (.pointer (some ⟨H.n, 0, none⟩)), H.push ⟨[Value.int .i64 op, .int .u32 N], 26, false⟩)).trans (by rw [← hH1_])) ?_
  refine aops_go 1 60 (by kernel_rfl) ?_
  refine aops_end (by kernel_rfl) (then_normal ?_)
  refine aw_code f9bc_eq ?_
  refine aw_then ?_
  refine aw_code f9bca_eq ?_
  refine aw_reg ?_
  have gH1_H_n : H1_.get (H.n) = some ⟨[Value.int .i64 op, .int .u32 N], 26, false⟩ := by rw [hH1_]; exact (Heap.get_push _ _ _).trans (if_pos rfl)
  refine aops_val 8 (.agg #[.int .i64 op, .int .u32 N]) H1_ (by kernel_rfl) (by kernel_rfl) (by kernel_rfl) ((by kernel_rfl : _ = val (aload T20 26 (.pointer (some ⟨H.n, 0, none⟩)) H1_) H1_).trans (val_of ((aload_at gH1_H_n).trans (by kernel_rfl)))) ?_
  refine aops_call_to 9 25 #[.agg #[.int .i64 op, .int .u32 N]] H1_ (by kernel_rfl) (by kernel_rfl) (fun v => (by kernel_rfl)) (by kernel_rfl) (by kernel_rfl) (enc_no hr) ?_
  rintro _ H2_ ⟨rfl, uH2_⟩
  have nH2_ := uH2_.n
  refine aops_go 5 60 (by kernel_rfl) ?_
  refine aops_end (by kernel_rfl) (then_normal ?_)
  refine aw_code f9bcc_eq ?_
  refine aw_then ?_
  refine aw_code f9bcca_eq ?_
  refine aw_reg ?_
  have gH2_H_n : H2_.get (H.n) = some ⟨[Value.int .i64 op, .int .u32 N], 26, false⟩ := by rw [uH2_.get _ (by omega)]; exact gH1_H_n
  refine aops_val 12 (.agg #[.int .i64 op, .int .u32 N]) H2_ (by kernel_rfl) (by kernel_rfl) (by kernel_rfl) ((by kernel_rfl : _ = val (aload T20 26 (.pointer (some ⟨H.n, 0, none⟩)) H2_) H2_).trans (val_of ((aload_at gH2_H_n).trans (by kernel_rfl)))) ?_
  refine aops_ask 13 (.bool (rightV op N)) 27 #[.agg #[.int .i64 op, .int .u32 N]] (by kernel_rfl) (by kernel_rfl) (by kernel_rfl) (by kernel_rfl) rfl ?_
  refine aops_go 1 60 (by kernel_rfl) ?_
  refine aops_end (by kernel_rfl) (then_normal ?_)
  refine aw_code f9bccc_eq ?_
  refine aw_then ?_
  refine aw_code f9bccca_eq ?_
  refine aw_reg ?_
  refine aops_go 1 60 (by kernel_rfl) ?_
  refine aops_end (by kernel_rfl) (then_normal ?_)
  refine aw_code f9bcccc_eq ?_
  refine aw_then ?_
  refine aw_code f9bcccca_eq ?_
  refine aw_then ?_
  refine aw_code f9bccccaa_eq ?_
  refine aw_reg ?_
  refine aops_go 1 60 (by kernel_rfl) ?_
  refine aops_end (by kernel_rfl) (then_normal ?_)
  refine aw_code f9bccccac_eq ?_
  refine aw_cond (t := false) (see_bool (by kernel_rfl) (hr : ((rightV op N)) = false)) ?_
  refine aw_skip (then_normal ?_)
  refine aw_code f9bccccc_eq ?_
  refine aw_then ?_
  refine aw_code f9bccccca_eq ?_
  refine aw_then ?_
  refine aw_code f9bcccccaa_eq ?_
  refine aw_drawU (H2_.n) ?_
  refine aopsU_rd 28 (.agg #[.int .i64 op, .int .u32 N]) (by kernel_rfl) (by kernel_rfl) (by kernel_rfl) (by kernel_rfl) ((by kernel_rfl : _ = val (aload T20 26 (.pointer (some ⟨H.n, 0, none⟩)) H2_) H2_).trans (val_to ((aload_at gH2_H_n).trans (by kernel_rfl)) (by kernel_rfl))) ?_
  refine aopsU_ask 29 (.bool (rightV op N)) 19 #[.agg #[.int .i64 op, .int .u32 N]] (by kernel_rfl) (by kernel_rfl) (by kernel_rfl) (by kernel_rfl) rfl ?_
  refine aopsU_go 3 (by kernel_rfl) ?_
  refine aopsU_see 32 (.bool false) (see_bool (by kernel_rfl) ((by simp) : (((rightV op N) != (rightV op N))) = false)) ?_
  refine aopsU_rd 33 (.agg #[.int .i64 op, .int .u32 N]) (by kernel_rfl) (by kernel_rfl) (by kernel_rfl) (by kernel_rfl) ((by kernel_rfl : _ = val (aload T20 26 (.pointer (some ⟨H.n, 0, none⟩)) H2_) H2_).trans (val_to ((aload_at gH2_H_n).trans (by kernel_rfl)) (by kernel_rfl))) ?_
  refine aopsU_ask 34 (.string (textV op N)) 20 #[.agg #[.int .i64 op, .int .u32 N]] (by kernel_rfl) (by kernel_rfl) (by kernel_rfl) (by kernel_rfl) (orc20 op N hN0) ?_
  refine aopsU_go 1 (by kernel_rfl) ?_
  refine aopsU_pt 36 (.bool (!(decide ((textV op N) = ⟨⟨[63]⟩⟩)))) (by kernel_rfl) (by kernel_rfl) (by kernel_rfl) (by kernel_rfl) (ha_fb (op := .neq) (t := 9) (a := .tmp 34) (b := .tmp 35) (u := .string (textV op N)) (v := .string ⟨⟨[63]⟩⟩) (by kernel_rfl) (by kernel_rfl) (by kernel_rfl) rfl rfl rfl (sne_run (by rw [Bool.not_not])) rfl) ?_
  refine aopsU_go 2 (by kernel_rfl) ?_
  refine aopsU_see 38 (.bool false) (see_bool (by kernel_rfl) ((by rw [text_no hr]; simp) : ((!(decide ((textV op N) = ⟨⟨[63]⟩⟩)))) = false)) ?_
  refine aopsU_go 6 (by kernel_rfl) ?_
  refine aopsU_see 44 (.bool false) (see_bool (by kernel_rfl) ((by rw [hr]; rfl) : ((false != (rightV op N))) = false)) ?_
  refine aopsU_go 3 (by kernel_rfl) ?_
  refine aopsU_see 47 (.bool true) (see_bool (by kernel_rfl) ((by rw [hr]; rfl) : (!(rightV op N)) = true)) ?_
  refine aopsU_go 12 (by kernel_rfl) ?_
  refine aopsU_see 59 (.bool false) (see_bool (by kernel_rfl) (hr : ((rightV op N)) = false)) ?_
  refine aopsU_go 8 (by kernel_rfl) ?_
  refine aopsU_end (by kernel_rfl) (then_normal ?_)
  refine aw_code f9bcccccac_eq ?_
  refine aw_cond (t := false) (by kernel_rfl) ?_
  refine aw_skip (then_normal ?_)
  refine aw_code f9bcccccc_eq ?_
  refine aw_then ?_
  refine aw_code f9bcccccca_eq ?_
  refine aw_drawU (H2_.n) ?_
  refine aopsU_go 1 (by kernel_rfl) ?_
  refine aopsU_rd 69 (.int .i64 op) (by kernel_rfl) (by kernel_rfl) (by kernel_rfl) (by kernel_rfl) ((by kernel_rfl : _ = val (aload T20 3 (.pointer (some ⟨H.n, 0, none⟩)) H2_) H2_).trans (val_to ((aload_at gH2_H_n).trans (by kernel_rfl)) (by kernel_rfl))) ?_
  refine aopsU_ask 70 (.int .i64 (sizeV op)) 15 #[.int .i64 op] (by kernel_rfl) (by kernel_rfl) (by kernel_rfl) (by kernel_rfl) rfl ?_
  refine aopsU_go 1 (by kernel_rfl) ?_
  refine aopsU_look 72 (.int .i64 op) (.pointer (some ⟨H.n, 0, none⟩)) (.tmp 71) H2_ (by kernel_rfl) (by kernel_rfl) (by kernel_rfl) (by kernel_rfl) (by kernel_rfl) (by kernel_rfl) ((by kernel_rfl : _ = aload T20 3 (.pointer (some ⟨H.n, 0, none⟩)) H2_).trans ((aload_at gH2_H_n).trans (by kernel_rfl))) (veq_int _ _) (lowB_ptr (by omega)) ((by kernel_rfl : _ = val (aload T20 3 (.pointer (some ⟨H.n, 0, none⟩)) H2_) H2_).trans (val_to ((aload_at gH2_H_n).trans (by kernel_rfl)) (by kernel_rfl))) ?_
  refine aopsU_ask 73 (.int .i64 (sizeV op)) 29 #[.int .i64 op] (by kernel_rfl) (by kernel_rfl) (by kernel_rfl) (by kernel_rfl) rfl ?_
  refine aopsU_go 2 (by kernel_rfl) ?_
  refine aopsU_see 75 (.bool true) (see_bool (by kernel_rfl) ((by simp) : ((((sizeV op) : Int) == (sizeV op))) = true)) ?_
  refine aopsU_go 1 (by kernel_rfl) ?_
  refine aopsU_rd 77 (.int .i64 op) (by kernel_rfl) (by kernel_rfl) (by kernel_rfl) (by kernel_rfl) ((by kernel_rfl : _ = val (aload T20 3 (.pointer (some ⟨H.n, 0, none⟩)) H2_) H2_).trans (val_to ((aload_at gH2_H_n).trans (by kernel_rfl)) (by kernel_rfl))) ?_
  refine aopsU_ask 78 (.bool (endsV op)) 17 #[.int .i64 op] (by kernel_rfl) (by kernel_rfl) (by kernel_rfl) (by kernel_rfl) rfl ?_
  refine aopsU_go 1 (by kernel_rfl) ?_
  refine aopsU_look 80 (.int .i64 op) (.pointer (some ⟨H.n, 0, none⟩)) (.tmp 79) H2_ (by kernel_rfl) (by kernel_rfl) (by kernel_rfl) (by kernel_rfl) (by kernel_rfl) (by kernel_rfl) ((by kernel_rfl : _ = aload T20 3 (.pointer (some ⟨H.n, 0, none⟩)) H2_).trans ((aload_at gH2_H_n).trans (by kernel_rfl))) (veq_int _ _) (lowB_ptr (by omega)) ((by kernel_rfl : _ = val (aload T20 3 (.pointer (some ⟨H.n, 0, none⟩)) H2_) H2_).trans (val_to ((aload_at gH2_H_n).trans (by kernel_rfl)) (by kernel_rfl))) ?_
  refine aopsU_ask 81 (.bool (endsV op)) 32 #[.int .i64 op] (by kernel_rfl) (by kernel_rfl) (by kernel_rfl) (by kernel_rfl) rfl ?_
  refine aopsU_go 3 (by kernel_rfl) ?_
  refine aopsU_see 84 (.bool true) (see_bool (by kernel_rfl) ((by simp) : (((endsV op) == (endsV op))) = true)) ?_
  refine aopsU_go 1 (by kernel_rfl) ?_
  refine aopsU_rd 86 (.int .i64 op) (by kernel_rfl) (by kernel_rfl) (by kernel_rfl) (by kernel_rfl) ((by kernel_rfl : _ = val (aload T20 3 (.pointer (some ⟨H.n, 0, none⟩)) H2_) H2_).trans (val_to ((aload_at gH2_H_n).trans (by kernel_rfl)) (by kernel_rfl))) ?_
  refine aopsU_ask 87 (.bool (plainV op)) 18 #[.int .i64 op] (by kernel_rfl) (by kernel_rfl) (by kernel_rfl) (by kernel_rfl) rfl ?_
  refine aopsU_go 1 (by kernel_rfl) ?_
  refine aopsU_look 89 (.int .i64 op) (.pointer (some ⟨H.n, 0, none⟩)) (.tmp 88) H2_ (by kernel_rfl) (by kernel_rfl) (by kernel_rfl) (by kernel_rfl) (by kernel_rfl) (by kernel_rfl) ((by kernel_rfl : _ = aload T20 3 (.pointer (some ⟨H.n, 0, none⟩)) H2_).trans ((aload_at gH2_H_n).trans (by kernel_rfl))) (veq_int _ _) (lowB_ptr (by omega)) ((by kernel_rfl : _ = val (aload T20 3 (.pointer (some ⟨H.n, 0, none⟩)) H2_) H2_).trans (val_to ((aload_at gH2_H_n).trans (by kernel_rfl)) (by kernel_rfl))) ?_
  refine aopsU_ask 90 (.bool (plainV op)) 33 #[.int .i64 op] (by kernel_rfl) (by kernel_rfl) (by kernel_rfl) (by kernel_rfl) rfl ?_
  refine aopsU_go 3 (by kernel_rfl) ?_
  refine aopsU_see 93 (.bool true) (see_bool (by kernel_rfl) ((by simp) : (((plainV op) == (plainV op))) = true)) ?_
  refine aopsU_go 1 (by kernel_rfl) ?_
  refine aopsU_rd 95 (.int .i64 op) (by kernel_rfl) (by kernel_rfl) (by kernel_rfl) (by kernel_rfl) ((by kernel_rfl : _ = val (aload T20 3 (.pointer (some ⟨H.n, 0, none⟩)) H2_) H2_).trans (val_to ((aload_at gH2_H_n).trans (by kernel_rfl)) (by kernel_rfl))) ?_
  refine aopsU_ask 96 (.bool (superV op)) 16 #[.int .i64 op] (by kernel_rfl) (by kernel_rfl) (by kernel_rfl) (by kernel_rfl) rfl ?_
  refine aopsU_go 1 (by kernel_rfl) ?_
  refine aopsU_look 98 (.int .i64 op) (.pointer (some ⟨H.n, 0, none⟩)) (.tmp 97) H2_ (by kernel_rfl) (by kernel_rfl) (by kernel_rfl) (by kernel_rfl) (by kernel_rfl) (by kernel_rfl) ((by kernel_rfl : _ = aload T20 3 (.pointer (some ⟨H.n, 0, none⟩)) H2_).trans ((aload_at gH2_H_n).trans (by kernel_rfl))) (veq_int _ _) (lowB_ptr (by omega)) ((by kernel_rfl : _ = val (aload T20 3 (.pointer (some ⟨H.n, 0, none⟩)) H2_) H2_).trans (val_to ((aload_at gH2_H_n).trans (by kernel_rfl)) (by kernel_rfl))) ?_
  refine aopsU_ask 99 (.bool (superV op)) 34 #[.int .i64 op] (by kernel_rfl) (by kernel_rfl) (by kernel_rfl) (by kernel_rfl) rfl ?_
  refine aopsU_go 2 (by kernel_rfl) ?_
  refine aopsU_see 101 (.bool true) (see_bool (x := ((superV op) == (superV op))) (by kernel_rfl) (by simp)) ?_
  refine aopsU_go 1 (by kernel_rfl) ?_
  refine aopsU_end (by kernel_rfl) (then_normal ?_)
  refine aw_ret (bodyQ_ret_to (.bool true) H2_ (by kernel_rfl) (by kernel_rfl) ?_)
  exact ⟨rfl, by omega, fun b hb => by rw [uH2_.get _ (by omega), hH1_, Heap.get_push, if_neg (by omega)]⟩
set_option maxHeartbeats 1000000 in
theorem same_one {op N : Int} {H : Heap} (hN0 : u32B N = true) (hr : rightV op N = true) (hz : sizeV op = 1) : ACall Tryd.prog T20 9 #[.agg #[.int .i64 op, .int .u32 N]] H fun r H' => r = .bool true ∧ Up H.n H H' := by
  refine acall_of' 102 (initTm 0 #[.agg #[.int .i64 op, .int .u32 N]]) rfl f9_fn f9_body rfl rfl ?_
  refine aw_code f9b_eq ?_
  refine aw_then ?_
  refine aw_code f9ba_eq ?_
  refine aw_reg ?_
  obtain ⟨H1_, hH1_⟩ : ∃ x : Heap, x = H.push ⟨[Value.int .i64 op, .int .u32 N], 26, false⟩ := ⟨_, rfl⟩
  have nH1_ : H1_.n = H.n + 1 := by rw [hH1_]; rfl
  refine aops_val 1 (.pointer (some ⟨H.n, 0, none⟩)) H1_ (by kernel_rfl) (by kernel_rfl) (by kernel_rfl) ((by kernel_rfl : _ = some (Res.val (.pointer (some ⟨H.n, 0, none⟩)), H.push ⟨[Value.int .i64 op, .int .u32 N], 26, false⟩)).trans (by rw [← hH1_])) ?_
  refine aops_go 1 60 (by kernel_rfl) ?_
  refine aops_end (by kernel_rfl) (then_normal ?_)
  refine aw_code f9bc_eq ?_
  refine aw_then ?_
  refine aw_code f9bca_eq ?_
  refine aw_reg ?_
  have gH1_H_n : H1_.get (H.n) = some ⟨[Value.int .i64 op, .int .u32 N], 26, false⟩ := by rw [hH1_]; exact (Heap.get_push _ _ _).trans (if_pos rfl)
  refine aops_val 8 (.agg #[.int .i64 op, .int .u32 N]) H1_ (by kernel_rfl) (by kernel_rfl) (by kernel_rfl) ((by kernel_rfl : _ = val (aload T20 26 (.pointer (some ⟨H.n, 0, none⟩)) H1_) H1_).trans (val_of ((aload_at gH1_H_n).trans (by kernel_rfl)))) ?_
  refine aops_call_to 9 25 #[.agg #[.int .i64 op, .int .u32 N]] H1_ (by kernel_rfl) (by kernel_rfl) (fun v => (by kernel_rfl)) (by kernel_rfl) (by kernel_rfl) (enc_ok hr) ?_
  rintro _ H2_ ⟨bv, rfl, hgr, uH2_⟩
  have nH2_ := uH2_.n
  have hle : (encL op N).length = 1 := by simp [encL, hz]
  have hen : encL op N = [by0 op] := by simp [encL, hz]
  obtain ⟨B1, rfl, gB1, hB1, hlB1⟩ : ∃ B1, bv = .slice (some ⟨B1, 0, none⟩) 1 (unk + 1) ∧ H2_.get B1 = some ⟨[by0 op], 5, false⟩ ∧ B1 < H2_.n ∧ H1_.n ≤ B1 := by
    rcases hgr.at_ with ⟨_, h0⟩ | ⟨B1, e, g, h1, h2⟩
    · omega
    · exact ⟨B1, by rw [e, hle], by rw [g, hen], h1, h2⟩
  refine aops_go 5 60 (by kernel_rfl) ?_
  refine aops_end (by kernel_rfl) (then_normal ?_)
  refine aw_code f9bcc_eq ?_
  refine aw_then ?_
  refine aw_code f9bcca_eq ?_
  refine aw_reg ?_
  have gH2_H_n : H2_.get (H.n) = some ⟨[Value.int .i64 op, .int .u32 N], 26, false⟩ := by rw [uH2_.get _ (by omega)]; exact gH1_H_n
  refine aops_val 12 (.agg #[.int .i64 op, .int .u32 N]) H2_ (by kernel_rfl) (by kernel_rfl) (by kernel_rfl) ((by kernel_rfl : _ = val (aload T20 26 (.pointer (some ⟨H.n, 0, none⟩)) H2_) H2_).trans (val_of ((aload_at gH2_H_n).trans (by kernel_rfl)))) ?_
  refine aops_ask 13 (.bool (rightV op N)) 27 #[.agg #[.int .i64 op, .int .u32 N]] (by kernel_rfl) (by kernel_rfl) (by kernel_rfl) (by kernel_rfl) rfl ?_
  refine aops_go 1 60 (by kernel_rfl) ?_
  refine aops_end (by kernel_rfl) (then_normal ?_)
  refine aw_code f9bccc_eq ?_
  refine aw_then ?_
  refine aw_code f9bccca_eq ?_
  refine aw_reg ?_
  refine aops_go 1 60 (by kernel_rfl) ?_
  refine aops_end (by kernel_rfl) (then_normal ?_)
  refine aw_code f9bcccc_eq ?_
  refine aw_then ?_
  refine aw_code f9bcccca_eq ?_
  refine aw_then ?_
  refine aw_code f9bccccaa_eq ?_
  refine aw_reg ?_
  refine aops_go 1 60 (by kernel_rfl) ?_
  refine aops_end (by kernel_rfl) (then_normal ?_)
  refine aw_code f9bccccac_eq ?_
  refine aw_cond (t := true) (see_bool (by kernel_rfl) (hr : ((rightV op N)) = true)) ?_
  refine aw_code f9bccccaca_eq ?_
  refine aw_then ?_
  refine aw_code f9bccccacaa_eq ?_
  refine aw_reg ?_
  refine aops_go 1 60 (by kernel_rfl) ?_
  refine aops_val 16 (.int .i64 op) H2_ (by kernel_rfl) (by kernel_rfl) (by kernel_rfl) ((by kernel_rfl : _ = val (aload T20 3 (.pointer (some ⟨H.n, 0, none⟩)) H2_) H2_).trans (val_of ((aload_at gH2_H_n).trans (by kernel_rfl)))) ?_
  refine aops_ask 17 (.string (nameV op)) 28 #[.int .i64 op] (by kernel_rfl) (by kernel_rfl) (by kernel_rfl) (by kernel_rfl) rfl ?_
  refine aops_go 1 60 (by kernel_rfl) ?_
  refine aops_end (by kernel_rfl) (then_normal ?_)
  refine aw_code f9bccccacac_eq ?_
  refine aw_then ?_
  refine aw_code f9bccccacaca_eq ?_
  refine aw_reg ?_
  refine aops_go 1 60 (by kernel_rfl) ?_
  refine aops_val 19 (.int .i64 op) H2_ (by kernel_rfl) (by kernel_rfl) (by kernel_rfl) ((by kernel_rfl : _ = val (aload T20 3 (.pointer (some ⟨H.n, 0, none⟩)) H2_) H2_).trans (val_of ((aload_at gH2_H_n).trans (by kernel_rfl)))) ?_
  refine aops_ask 20 (.int .i64 1) 29 #[.int .i64 op] (by kernel_rfl) (by kernel_rfl) (by kernel_rfl) (by kernel_rfl) (show some (Value.int .i64 (sizeV op)) = _ by rw [hz]) ?_
  refine aops_go 1 60 (by kernel_rfl) ?_
  refine aops_end (by kernel_rfl) (then_normal ?_)
  refine aw_code f9bccccacacc_eq ?_
  refine aw_cond (t := false) (by kernel_rfl) ?_
  refine aw_skip (then_normal ?_)
  refine aw_code f9bccccc_eq ?_
  refine aw_then ?_
  refine aw_code f9bccccca_eq ?_
  refine aw_then ?_
  refine aw_code f9bcccccaa_eq ?_
  refine aw_drawU (H2_.n) ?_
  refine aopsU_rd 28 (.agg #[.int .i64 op, .int .u32 N]) (by kernel_rfl) (by kernel_rfl) (by kernel_rfl) (by kernel_rfl) ((by kernel_rfl : _ = val (aload T20 26 (.pointer (some ⟨H.n, 0, none⟩)) H2_) H2_).trans (val_to ((aload_at gH2_H_n).trans (by kernel_rfl)) (by kernel_rfl))) ?_
  refine aopsU_ask 29 (.bool (rightV op N)) 19 #[.agg #[.int .i64 op, .int .u32 N]] (by kernel_rfl) (by kernel_rfl) (by kernel_rfl) (by kernel_rfl) rfl ?_
  refine aopsU_go 3 (by kernel_rfl) ?_
  refine aopsU_see 32 (.bool false) (see_bool (by kernel_rfl) ((by simp) : (((rightV op N) != (rightV op N))) = false)) ?_
  refine aopsU_rd 33 (.agg #[.int .i64 op, .int .u32 N]) (by kernel_rfl) (by kernel_rfl) (by kernel_rfl) (by kernel_rfl) ((by kernel_rfl : _ = val (aload T20 26 (.pointer (some ⟨H.n, 0, none⟩)) H2_) H2_).trans (val_to ((aload_at gH2_H_n).trans (by kernel_rfl)) (by kernel_rfl))) ?_
  refine aopsU_ask 34 (.string (textV op N)) 20 #[.agg #[.int .i64 op, .int .u32 N]] (by kernel_rfl) (by kernel_rfl) (by kernel_rfl) (by kernel_rfl) (orc20 op N hN0) ?_
  refine aopsU_go 1 (by kernel_rfl) ?_
  refine aopsU_pt 36 (.bool (!(decide ((textV op N) = (nameV op))))) (by kernel_rfl) (by kernel_rfl) (by kernel_rfl) (by kernel_rfl) (ha_fb (op := .neq) (t := 9) (a := .tmp 34) (b := .tmp 35) (u := .string (textV op N)) (v := .string (nameV op)) (by kernel_rfl) (by kernel_rfl) (by kernel_rfl) rfl rfl rfl (sne_run (by rw [Bool.not_not])) rfl) ?_
  refine aopsU_go 2 (by kernel_rfl) ?_
  refine aopsU_see 38 (.bool false) (see_bool (by kernel_rfl) ((by rw [text_one hr (by rw [hz]; rfl)]; simp) : ((!(decide ((textV op N) = (nameV op))))) = false)) ?_
  refine aopsU_go 6 (by kernel_rfl) ?_
  refine aopsU_see 44 (.bool false) (see_bool (by kernel_rfl) ((by rw [hr]; rfl) : ((true != (rightV op N))) = false)) ?_
  refine aopsU_go 3 (by kernel_rfl) ?_
  refine aopsU_see 47 (.bool false) (see_bool (by kernel_rfl) ((by rw [hr]; rfl) : (!(rightV op N)) = false)) ?_
  refine aopsU_go 12 (by kernel_rfl) ?_
  refine aopsU_see 59 (.bool true) (see_bool (by kernel_rfl) (hr : ((rightV op N)) = true)) ?_
  refine aopsU_go 1 (by kernel_rfl) ?_
  refine aopsU_look 61 (.string (bstr [by0 op])) (.slice (some ⟨B1, 0, none⟩) 1 (unk + 1)) (.tmp 60) H2_ (by kernel_rfl) (by kernel_rfl) (by kernel_rfl) (by kernel_rfl) (by kernel_rfl) (by kernel_rfl) ((by kernel_rfl : _ = aconvert T20 27 9 (.slice (some ⟨B1, 0, none⟩) 1 (unk + 1)) H2_).trans (aconv_at (T := T20) (s := 27) (d := 9) (e := 5) (off := 0) (n := 1) (cap := unk + 1) (by kernel_rfl) (by kernel_rfl) (by kernel_rfl) (l := [by0 op]) gB1 rfl rfl rfl)) (by simp [veq, veq0]) (lowB_slice (by omega)) (ha_cv (H := H2_) (s := 27) (d := 9) (x := .tmp 60) (u := .slice (some ⟨B1, 0, none⟩) 1 (unk + 1)) (by kernel_rfl) (by kernel_rfl) (by kernel_rfl) (aconv_at (T := T20) (s := 27) (d := 9) (e := 5) (off := 0) (n := 1) (cap := unk + 1) (by kernel_rfl) (by kernel_rfl) (by kernel_rfl) (l := [by0 op]) gB1 rfl rfl rfl) (by kernel_rfl)) ?_
  refine aopsU_rd 62 (.agg #[.int .i64 op, .int .u32 N]) (by kernel_rfl) (by kernel_rfl) (by kernel_rfl) (by kernel_rfl) ((by kernel_rfl : _ = val (aload T20 26 (.pointer (some ⟨H.n, 0, none⟩)) H2_) H2_).trans (val_to ((aload_at gH2_H_n).trans (by kernel_rfl)) (by kernel_rfl))) ?_
  refine aopsU_call 63 31 #[.agg #[.int .i64 op, .int .u32 N]] H2_ (by kernel_rfl) (by kernel_rfl) (fun v => (by kernel_rfl)) (by kernel_rfl) (by kernel_rfl) (renc_1 (N := N) hz) (fun v H2 h2 => by obtain ⟨_, _, _, _, _, u⟩ := h2; exact u.mono (by omega)) ?_
  rintro _ H3_ ⟨B2, cap2, rfl, gB2, hB2, uH3_⟩
  have nH3_ := uH3_.n
  refine aopsU_rd 64 (.string (bstr [by0 op])) (by kernel_rfl) (by kernel_rfl) (by kernel_rfl) (by kernel_rfl) (ha_cv (H := H3_) (s := 27) (d := 9) (x := .tmp 63) (u := .slice (some ⟨B2, 0, none⟩) 1 cap2) (by kernel_rfl) (by kernel_rfl) (by kernel_rfl) (aconv_at (T := T20) (s := 27) (d := 9) (e := 5) (off := 0) (n := 1) (cap := cap2) (by kernel_rfl) (by kernel_rfl) (by kernel_rfl) (l := [by0 op]) gB2 rfl rfl rfl) (by kernel_rfl)) ?_
  refine aopsU_pt 65 (.bool (!(decide ((bstr [by0 op]) = (bstr [by0 op]))))) (by kernel_rfl) (by kernel_rfl) (by kernel_rfl) (by kernel_rfl) (ha_fb (op := .neq) (t := 9) (a := .tmp 61) (b := .tmp 64) (u := .string (bstr [by0 op])) (v := .string (bstr [by0 op])) (by kernel_rfl) (by kernel_rfl) (by kernel_rfl) rfl rfl rfl (sne_run (by rw [Bool.not_not])) rfl) ?_
  refine aopsU_go 2 (by kernel_rfl) ?_
  refine aopsU_end (by kernel_rfl) (then_normal ?_)
  refine aw_code f9bcccccac_eq ?_
  refine aw_cond (t := false) (see_bool (by kernel_rfl) ((by simp) : ((!(decide ((bstr [by0 op]) = (bstr [by0 op]))))) = false)) ?_
  refine aw_skip (then_normal ?_)
  refine aw_code f9bcccccc_eq ?_
  refine aw_then ?_
  refine aw_code f9bcccccca_eq ?_
  refine aw_drawU (H3_.n) ?_
  refine aopsU_go 1 (by kernel_rfl) ?_
  have gH3_H_n : H3_.get (H.n) = some ⟨[Value.int .i64 op, .int .u32 N], 26, false⟩ := by rw [uH3_.get _ (by omega)]; exact gH2_H_n
  refine aopsU_rd 69 (.int .i64 op) (by kernel_rfl) (by kernel_rfl) (by kernel_rfl) (by kernel_rfl) ((by kernel_rfl : _ = val (aload T20 3 (.pointer (some ⟨H.n, 0, none⟩)) H3_) H3_).trans (val_to ((aload_at gH3_H_n).trans (by kernel_rfl)) (by kernel_rfl))) ?_
  refine aopsU_ask 70 (.int .i64 1) 15 #[.int .i64 op] (by kernel_rfl) (by kernel_rfl) (by kernel_rfl) (by kernel_rfl) (show some (Value.int .i64 (sizeV op)) = _ by rw [hz]) ?_
  refine aopsU_go 1 (by kernel_rfl) ?_
  refine aopsU_look 72 (.int .i64 op) (.pointer (some ⟨H.n, 0, none⟩)) (.tmp 71) H3_ (by kernel_rfl) (by kernel_rfl) (by kernel_rfl) (by kernel_rfl) (by kernel_rfl) (by kernel_rfl) ((by kernel_rfl : _ = aload T20 3 (.pointer (some ⟨H.n, 0, none⟩)) H3_).trans ((aload_at gH3_H_n).trans (by kernel_rfl))) (veq_int _ _) (lowB_ptr (by omega)) ((by kernel_rfl : _ = val (aload T20 3 (.pointer (some ⟨H.n, 0, none⟩)) H3_) H3_).trans (val_to ((aload_at gH3_H_n).trans (by kernel_rfl)) (by kernel_rfl))) ?_
  refine aopsU_ask 73 (.int .i64 1) 29 #[.int .i64 op] (by kernel_rfl) (by kernel_rfl) (by kernel_rfl) (by kernel_rfl) (show some (Value.int .i64 (sizeV op)) = _ by rw [hz]) ?_
  refine aopsU_go 3 (by kernel_rfl) ?_
  refine aopsU_rd 77 (.int .i64 op) (by kernel_rfl) (by kernel_rfl) (by kernel_rfl) (by kernel_rfl) ((by kernel_rfl : _ = val (aload T20 3 (.pointer (some ⟨H.n, 0, none⟩)) H3_) H3_).trans (val_to ((aload_at gH3_H_n).trans (by kernel_rfl)) (by kernel_rfl))) ?_
  refine aopsU_ask 78 (.bool (endsV op)) 17 #[.int .i64 op] (by kernel_rfl) (by kernel_rfl) (by kernel_rfl) (by kernel_rfl) rfl ?_
  refine aopsU_go 1 (by kernel_rfl) ?_
  refine aopsU_look 80 (.int .i64 op) (.pointer (some ⟨H.n, 0, none⟩)) (.tmp 79) H3_ (by kernel_rfl) (by kernel_rfl) (by kernel_rfl) (by kernel_rfl) (by kernel_rfl) (by kernel_rfl) ((by kernel_rfl : _ = aload T20 3 (.pointer (some ⟨H.n, 0, none⟩)) H3_).trans ((aload_at gH3_H_n).trans (by kernel_rfl))) (veq_int _ _) (lowB_ptr (by omega)) ((by kernel_rfl : _ = val (aload T20 3 (.pointer (some ⟨H.n, 0, none⟩)) H3_) H3_).trans (val_to ((aload_at gH3_H_n).trans (by kernel_rfl)) (by kernel_rfl))) ?_
  refine aopsU_ask 81 (.bool (endsV op)) 32 #[.int .i64 op] (by kernel_rfl) (by kernel_rfl) (by kernel_rfl) (by kernel_rfl) rfl ?_
  refine aopsU_go 3 (by kernel_rfl) ?_
  refine aopsU_see 84 (.bool true) (see_bool (by kernel_rfl) ((by simp) : (((endsV op) == (endsV op))) = true)) ?_
  refine aopsU_go 1 (by kernel_rfl) ?_
  refine aopsU_rd 86 (.int .i64 op) (by kernel_rfl) (by kernel_rfl) (by kernel_rfl) (by kernel_rfl) ((by kernel_rfl : _ = val (aload T20 3 (.pointer (some ⟨H.n, 0, none⟩)) H3_) H3_).trans (val_to ((aload_at gH3_H_n).trans (by kernel_rfl)) (by kernel_rfl))) ?_
  refine aopsU_ask 87 (.bool (plainV op)) 18 #[.int .i64 op] (by kernel_rfl) (by kernel_rfl) (by kernel_rfl) (by kernel_rfl) rfl ?_
  refine aopsU_go 1 (by kernel_rfl) ?_
  refine aopsU_look 89 (.int .i64 op) (.pointer (some ⟨H.n, 0, none⟩)) (.tmp 88) H3_ (by kernel_rfl) (by kernel_rfl) (by kernel_rfl) (by kernel_rfl) (by kernel_rfl) (by kernel_rfl) ((by kernel_rfl : _ = aload T20 3 (.pointer (some ⟨H.n, 0, none⟩)) H3_).trans ((aload_at gH3_H_n).trans (by kernel_rfl))) (veq_int _ _) (lowB_ptr (by omega)) ((by kernel_rfl : _ = val (aload T20 3 (.pointer (some ⟨H.n, 0, none⟩)) H3_) H3_).trans (val_to ((aload_at gH3_H_n).trans (by kernel_rfl)) (by kernel_rfl))) ?_
  refine aopsU_ask 90 (.bool (plainV op)) 33 #[.int .i64 op] (by kernel_rfl) (by kernel_rfl) (by kernel_rfl) (by kernel_rfl) rfl ?_
  refine aopsU_go 3 (by kernel_rfl) ?_
  refine aopsU_see 93 (.bool true) (see_bool (by kernel_rfl) ((by simp) : (((plainV op) == (plainV op))) = true)) ?_
  refine aopsU_go 1 (by kernel_rfl) ?_
  refine aopsU_rd 95 (.int .i64 op) (by kernel_rfl) (by kernel_rfl) (by kernel_rfl) (by kernel_rfl) ((by kernel_rfl : _ = val (aload T20 3 (.pointer (some ⟨H.n, 0, none⟩)) H3_) H3_).trans (val_to ((aload_at gH3_H_n).trans (by kernel_rfl)) (by kernel_rfl))) ?_
  refine aopsU_ask 96 (.bool (superV op)) 16 #[.int .i64 op] (by kernel_rfl) (by kernel_rfl) (by kernel_rfl) (by kernel_rfl) rfl ?_
  refine aopsU_go 1 (by kernel_rfl) ?_
  refine aopsU_look 98 (.int .i64 op) (.pointer (some ⟨H.n, 0, none⟩)) (.tmp 97) H3_ (by kernel_rfl) (by kernel_rfl) (by kernel_rfl) (by kernel_rfl) (by kernel_rfl) (by kernel_rfl) ((by kernel_rfl : _ = aload T20 3 (.pointer (some ⟨H.n, 0, none⟩)) H3_).trans ((aload_at gH3_H_n).trans (by kernel_rfl))) (veq_int _ _) (lowB_ptr (by omega)) ((by kernel_rfl : _ = val (aload T20 3 (.pointer (some ⟨H.n, 0, none⟩)) H3_) H3_).trans (val_to ((aload_at gH3_H_n).trans (by kernel_rfl)) (by kernel_rfl))) ?_
  refine aopsU_ask 99 (.bool (superV op)) 34 #[.int .i64 op] (by kernel_rfl) (by kernel_rfl) (by kernel_rfl) (by kernel_rfl) rfl ?_
  refine aopsU_go 2 (by kernel_rfl) ?_
  refine aopsU_see 101 (.bool true) (see_bool (x := ((superV op) == (superV op))) (by kernel_rfl) (by simp)) ?_
  refine aopsU_go 1 (by kernel_rfl) ?_
  refine aopsU_end (by kernel_rfl) (then_normal ?_)
  refine aw_ret (bodyQ_ret_to (.bool true) H3_ (by kernel_rfl) (by kernel_rfl) ?_)
  exact ⟨rfl, by omega, fun b hb => by rw [uH3_.get _ (by omega), uH2_.get _ (by omega), hH1_, Heap.get_push, if_neg (by omega)]⟩
set_option maxHeartbeats 1000000 in
theorem same_two {op N : Int} {H : Heap} (hN0 : u32B N = true) (hr : rightV op N = true) (hz : sizeV op = 2) : ACall Tryd.prog T20 9 #[.agg #[.int .i64 op, .int .u32 N]] H fun r H' => r = .bool true ∧ Up H.n H H' := by
  refine acall_of' 102 (initTm 0 #[.agg #[.int .i64 op, .int .u32 N]]) rfl f9_fn f9_body rfl rfl ?_
  refine aw_code f9b_eq ?_
  refine aw_then ?_
  refine aw_code f9ba_eq ?_
  refine aw_reg ?_
  obtain ⟨H1_, hH1_⟩ : ∃ x : Heap, x = H.push ⟨[Value.int .i64 op, .int .u32 N], 26, false⟩ := ⟨_, rfl⟩
  have nH1_ : H1_.n = H.n + 1 := by rw [hH1_]; rfl
  refine aops_val 1 (.pointer (some ⟨H.n, 0, none⟩)) H1_ (by kernel_rfl) (by kernel_rfl) (by kernel_rfl) ((by kernel_rfl : _ = some (Res.val (.pointer (some ⟨H.n, 0, none⟩)), H.push ⟨[Value.int .i64 op, .int .u32 N], 26, false⟩)).trans (by rw [← hH1_])) ?_
  refine aops_go 1 60 (by kernel_rfl) ?_
  refine aops_end (by kernel_rfl) (then_normal ?_)
  refine aw_code f9bc_eq ?_
  refine aw_then ?_
  refine aw_code f9bca_eq ?_
  refine aw_reg ?_
  have gH1_H_n : H1_.get (H.n) = some ⟨[Value.int .i64 op, .int .u32 N], 26, false⟩ := by rw [hH1_]; exact (Heap.get_push _ _ _).trans (if_pos rfl)
  refine aops_val 8 (.agg #[.int .i64 op, .int .u32 N]) H1_ (by kernel_rfl) (by kernel_rfl) (by kernel_rfl) ((by kernel_rfl : _ = val (aload T20 26 (.pointer (some ⟨H.n, 0, none⟩)) H1_) H1_).trans (val_of ((aload_at gH1_H_n).trans (by kernel_rfl)))) ?_
  refine aops_call_to 9 25 #[.agg #[.int .i64 op, .int .u32 N]] H1_ (by kernel_rfl) (by kernel_rfl) (fun v => (by kernel_rfl)) (by kernel_rfl) (by kernel_rfl) (enc_ok hr) ?_
  rintro _ H2_ ⟨bv, rfl, hgr, uH2_⟩
  have nH2_ := uH2_.n
  have hle : (encL op N).length = 2 := by simp [encL, hz]
  have hen : encL op N = [by0 op, byN N 1] := by simp [encL, hz]
  obtain ⟨B1, rfl, gB1, hB1, hlB1⟩ : ∃ B1, bv = .slice (some ⟨B1, 0, none⟩) 2 (unk + 1) ∧ H2_.get B1 = some ⟨[by0 op, byN N 1], 5, false⟩ ∧ B1 < H2_.n ∧ H1_.n ≤ B1 := by
    rcases hgr.at_ with ⟨_, h0⟩ | ⟨B1, e, g, h1, h2⟩
    · omega
    · exact ⟨B1, by rw [e, hle], by rw [g, hen], h1, h2⟩
  refine aops_go 5 60 (by kernel_rfl) ?_
  refine aops_end (by kernel_rfl) (then_normal ?_)
  refine aw_code f9bcc_eq ?_
  refine aw_then ?_
  refine aw_code f9bcca_eq ?_
  refine aw_reg ?_
  have gH2_H_n : H2_.get (H.n) = some ⟨[Value.int .i64 op, .int .u32 N], 26, false⟩ := by rw [uH2_.get _ (by omega)]; exact gH1_H_n
  refine aops_val 12 (.agg #[.int .i64 op, .int .u32 N]) H2_ (by kernel_rfl) (by kernel_rfl) (by kernel_rfl) ((by kernel_rfl : _ = val (aload T20 26 (.pointer (some ⟨H.n, 0, none⟩)) H2_) H2_).trans (val_of ((aload_at gH2_H_n).trans (by kernel_rfl)))) ?_
  refine aops_ask 13 (.bool (rightV op N)) 27 #[.agg #[.int .i64 op, .int .u32 N]] (by kernel_rfl) (by kernel_rfl) (by kernel_rfl) (by kernel_rfl) rfl ?_
  refine aops_go 1 60 (by kernel_rfl) ?_
  refine aops_end (by kernel_rfl) (then_normal ?_)
  refine aw_code f9bccc_eq ?_
  refine aw_then ?_
  refine aw_code f9bccca_eq ?_
  refine aw_reg ?_
  refine aops_go 1 60 (by kernel_rfl) ?_
  refine aops_end (by kernel_rfl) (then_normal ?_)
  refine aw_code f9bcccc_eq ?_
  refine aw_then ?_
  refine aw_code f9bcccca_eq ?_
  refine aw_then ?_
  refine aw_code f9bccccaa_eq ?_
  refine aw_reg ?_
  refine aops_go 1 60 (by kernel_rfl) ?_
  refine aops_end (by kernel_rfl) (then_normal ?_)
  refine aw_code f9bccccac_eq ?_
  refine aw_cond (t := true) (see_bool (by kernel_rfl) (hr : ((rightV op N)) = true)) ?_
  refine aw_code f9bccccaca_eq ?_
  refine aw_then ?_
  refine aw_code f9bccccacaa_eq ?_
  refine aw_reg ?_
  refine aops_go 1 60 (by kernel_rfl) ?_
  refine aops_val 16 (.int .i64 op) H2_ (by kernel_rfl) (by kernel_rfl) (by kernel_rfl) ((by kernel_rfl : _ = val (aload T20 3 (.pointer (some ⟨H.n, 0, none⟩)) H2_) H2_).trans (val_of ((aload_at gH2_H_n).trans (by kernel_rfl)))) ?_
  refine aops_ask 17 (.string (nameV op)) 28 #[.int .i64 op] (by kernel_rfl) (by kernel_rfl) (by kernel_rfl) (by kernel_rfl) rfl ?_
  refine aops_go 1 60 (by kernel_rfl) ?_
  refine aops_end (by kernel_rfl) (then_normal ?_)
  refine aw_code f9bccccacac_eq ?_
  refine aw_then ?_
  refine aw_code f9bccccacaca_eq ?_
  refine aw_reg ?_
  refine aops_go 1 60 (by kernel_rfl) ?_
  refine aops_val 19 (.int .i64 op) H2_ (by kernel_rfl) (by kernel_rfl) (by kernel_rfl) ((by kernel_rfl : _ = val (aload T20 3 (.pointer (some ⟨H.n, 0, none⟩)) H2_) H2_).trans (val_of ((aload_at gH2_H_n).trans (by kernel_rfl)))) ?_
  refine aops_ask 20 (.int .i64 2) 29 #[.int .i64 op] (by kernel_rfl) (by kernel_rfl) (by kernel_rfl) (by kernel_rfl) (show some (Value.int .i64 (sizeV op)) = _ by rw [hz]) ?_
  refine aops_go 1 60 (by kernel_rfl) ?_
  refine aops_end (by kernel_rfl) (then_normal ?_)
  refine aw_code f9bccccacacc_eq ?_
  refine aw_cond (t := true) (by kernel_rfl) ?_
  refine aw_code f9bccccacacca_eq ?_
  refine aw_reg ?_
  refine aops_go 1 60 (by kernel_rfl) ?_
  refine aops_val 23 (.string ((nameV op) ++ ⟨⟨[32]⟩⟩)) H2_ (by kernel_rfl) (by kernel_rfl) (by kernel_rfl) (ha_fb (op := .add) (t := 9) (a := .tmp 22) (b := .const (.string ⟨⟨[32]⟩⟩)) (u := .string (nameV op)) (v := .string ⟨⟨[32]⟩⟩) (by kernel_rfl) (by kernel_rfl) (by kernel_rfl) rfl rfl rfl (sadd_run (by (try simp only [size_app]); have h1 := nameV_size op; have h2 := dec_size N hN0; have h3 : (⟨⟨[32]⟩⟩ : ByteArray).size = 1 := rfl; omega)) rfl) ?_
  refine aops_go 1 60 (by kernel_rfl) ?_
  refine aops_val 25 (.int .u32 N) H2_ (by kernel_rfl) (by kernel_rfl) (by kernel_rfl) ((by kernel_rfl : _ = val (aload T20 22 (.pointer (some ⟨H.n, 1, none⟩)) H2_) H2_).trans (val_of ((aload_at gH2_H_n).trans (by kernel_rfl)))) ?_
  refine aops_ask 26 (.string (dec N)) 30 #[.int .u32 N] (by kernel_rfl) (by kernel_rfl) (by kernel_rfl) (by kernel_rfl) (orc30 N hN0) ?_
  refine aops_val 27 (.string (((nameV op) ++ ⟨⟨[32]⟩⟩) ++ (dec N))) H2_ (by kernel_rfl) (by kernel_rfl) (by kernel_rfl) (ha_fb (op := .add) (t := 9) (a := .tmp 23) (b := .tmp 26) (u := .string ((nameV op) ++ ⟨⟨[32]⟩⟩)) (v := .string (dec N)) (by kernel_rfl) (by kernel_rfl) (by kernel_rfl) rfl rfl rfl (sadd_run (by (try simp only [size_app]); have h1 := nameV_size op; have h2 := dec_size N hN0; have h3 : (⟨⟨[32]⟩⟩ : ByteArray).size = 1 := rfl; omega)) rfl) ?_
  refine aops_go 1 60 (by kernel_rfl) ?_
  refine aops_end (by kernel_rfl) (then_normal ?_)
  refine aw_code f9bccccc_eq ?_
  refine aw_then ?_
  refine aw_code f9bccccca_eq ?_
  refine aw_then ?_
  refine aw_code f9bcccccaa_eq ?_
  refine aw_drawU (H2_.n) ?_
  refine aopsU_rd 28 (.agg #[.int .i64 op, .int .u32 N]) (by kernel_rfl) (by kernel_rfl) (by kernel_rfl) (by kernel_rfl) ((by kernel_rfl : _ = val (aload T20 26 (.pointer (some ⟨H.n, 0, none⟩)) H2_) H2_).trans (val_to ((aload_at gH2_H_n).trans (by kernel_rfl)) (by kernel_rfl))) ?_
  refine aopsU_ask 29 (.bool (rightV op N)) 19 #[.agg #[.int .i64 op, .int .u32 N]] (by kernel_rfl) (by kernel_rfl) (by kernel_rfl) (by kernel_rfl) rfl ?_
  refine aopsU_go 3 (by kernel_rfl) ?_
  refine aopsU_see 32 (.bool false) (see_bool (by kernel_rfl) ((by simp) : (((rightV op N) != (rightV op N))) = false)) ?_
  refine aopsU_rd 33 (.agg #[.int .i64 op, .int .u32 N]) (by kernel_rfl) (by kernel_rfl) (by kernel_rfl) (by kernel_rfl) ((by kernel_rfl : _ = val (aload T20 26 (.pointer (some ⟨H.n, 0, none⟩)) H2_) H2_).trans (val_to ((aload_at gH2_H_n).trans (by kernel_rfl)) (by kernel_rfl))) ?_
  refine aopsU_ask 34 (.string (textV op N)) 20 #[.agg #[.int .i64 op, .int .u32 N]] (by kernel_rfl) (by kernel_rfl) (by kernel_rfl) (by kernel_rfl) (orc20 op N hN0) ?_
  refine aopsU_go 1 (by kernel_rfl) ?_
  refine aopsU_pt 36 (.bool (!(decide ((textV op N) = (((nameV op) ++ ⟨⟨[32]⟩⟩) ++ (dec N)))))) (by kernel_rfl) (by kernel_rfl) (by kernel_rfl) (by kernel_rfl) (ha_fb (op := .neq) (t := 9) (a := .tmp 34) (b := .tmp 35) (u := .string (textV op N)) (v := .string (((nameV op) ++ ⟨⟨[32]⟩⟩) ++ (dec N))) (by kernel_rfl) (by kernel_rfl) (by kernel_rfl) rfl rfl rfl (sne_run (by rw [Bool.not_not])) rfl) ?_
  refine aopsU_go 2 (by kernel_rfl) ?_
  refine aopsU_see 38 (.bool false) (see_bool (by kernel_rfl) ((by rw [text_two hr (by rw [hz]; rfl)]; simp) : ((!(decide ((textV op N) = (((nameV op) ++ ⟨⟨[32]⟩⟩) ++ (dec N)))))) = false)) ?_
  refine aopsU_go 6 (by kernel_rfl) ?_
  refine aopsU_see 44 (.bool false) (see_bool (by kernel_rfl) ((by rw [hr]; rfl) : ((true != (rightV op N))) = false)) ?_
  refine aopsU_go 3 (by kernel_rfl) ?_
  refine aopsU_see 47 (.bool false) (see_bool (by kernel_rfl) ((by rw [hr]; rfl) : (!(rightV op N)) = false)) ?_
  refine aopsU_go 12 (by kernel_rfl) ?_
  refine aopsU_see 59 (.bool true) (see_bool (by kernel_rfl) (hr : ((rightV op N)) = true)) ?_
  refine aopsU_go 1 (by kernel_rfl) ?_
  refine aopsU_look 61 (.string (bstr [by0 op, byN N 1])) (.slice (some ⟨B1, 0, none⟩) 2 (unk + 1)) (.tmp 60) H2_ (by kernel_rfl) (by kernel_rfl) (by kernel_rfl) (by kernel_rfl) (by kernel_rfl) (by kernel_rfl) ((by kernel_rfl : _ = aconvert T20 27 9 (.slice (some ⟨B1, 0, none⟩) 2 (unk + 1)) H2_).trans (aconv_at (T := T20) (s := 27) (d := 9) (e := 5) (off := 0) (n := 2) (cap := unk + 1) (by kernel_rfl) (by kernel_rfl) (by kernel_rfl) (l := [by0 op, byN N 1]) gB1 rfl rfl rfl)) (by simp [veq, veq0]) (lowB_slice (by omega)) (ha_cv (H := H2_) (s := 27) (d := 9) (x := .tmp 60) (u := .slice (some ⟨B1, 0, none⟩) 2 (unk + 1)) (by kernel_rfl) (by kernel_rfl) (by kernel_rfl) (aconv_at (T := T20) (s := 27) (d := 9) (e := 5) (off := 0) (n := 2) (cap := unk + 1) (by kernel_rfl) (by kernel_rfl) (by kernel_rfl) (l := [by0 op, byN N 1]) gB1 rfl rfl rfl) (by kernel_rfl)) ?_
  refine aopsU_rd 62 (.agg #[.int .i64 op, .int .u32 N]) (by kernel_rfl) (by kernel_rfl) (by kernel_rfl) (by kernel_rfl) ((by kernel_rfl : _ = val (aload T20 26 (.pointer (some ⟨H.n, 0, none⟩)) H2_) H2_).trans (val_to ((aload_at gH2_H_n).trans (by kernel_rfl)) (by kernel_rfl))) ?_
  refine aopsU_call 63 31 #[.agg #[.int .i64 op, .int .u32 N]] H2_ (by kernel_rfl) (by kernel_rfl) (fun v => (by kernel_rfl)) (by kernel_rfl) (by kernel_rfl) (renc_2 (N := N) hz) (fun v H2 h2 => by obtain ⟨_, _, _, _, _, u⟩ := h2; exact u.mono (by omega)) ?_
  rintro _ H3_ ⟨B2, cap2, rfl, gB2, hB2, uH3_⟩
  have nH3_ := uH3_.n
  refine aopsU_rd 64 (.string (bstr [by0 op, byN N 1])) (by kernel_rfl) (by kernel_rfl) (by kernel_rfl) (by kernel_rfl) (ha_cv (H := H3_) (s := 27) (d := 9) (x := .tmp 63) (u := .slice (some ⟨B2, 0, none⟩) 2 cap2) (by kernel_rfl) (by kernel_rfl) (by kernel_rfl) (aconv_at (T := T20) (s := 27) (d := 9) (e := 5) (off := 0) (n := 2) (cap := cap2) (by kernel_rfl) (by kernel_rfl) (by kernel_rfl) (l := [by0 op, byN N 1]) gB2 rfl rfl rfl) (by kernel_rfl)) ?_
  refine aopsU_pt 65 (.bool (!(decide ((bstr [by0 op, byN N 1]) = (bstr [by0 op, byN N 1]))))) (by kernel_rfl) (by kernel_rfl) (by kernel_rfl) (by kernel_rfl) (ha_fb (op := .neq) (t := 9) (a := .tmp 61) (b := .tmp 64) (u := .string (bstr [by0 op, byN N 1])) (v := .string (bstr [by0 op, byN N 1])) (by kernel_rfl) (by kernel_rfl) (by kernel_rfl) rfl rfl rfl (sne_run (by rw [Bool.not_not])) rfl) ?_
  refine aopsU_go 2 (by kernel_rfl) ?_
  refine aopsU_end (by kernel_rfl) (then_normal ?_)
  refine aw_code f9bcccccac_eq ?_
  refine aw_cond (t := false) (see_bool (by kernel_rfl) ((by simp) : ((!(decide ((bstr [by0 op, byN N 1]) = (bstr [by0 op, byN N 1]))))) = false)) ?_
  refine aw_skip (then_normal ?_)
  refine aw_code f9bcccccc_eq ?_
  refine aw_then ?_
  refine aw_code f9bcccccca_eq ?_
  refine aw_drawU (H3_.n) ?_
  refine aopsU_go 1 (by kernel_rfl) ?_
  have gH3_H_n : H3_.get (H.n) = some ⟨[Value.int .i64 op, .int .u32 N], 26, false⟩ := by rw [uH3_.get _ (by omega)]; exact gH2_H_n
  refine aopsU_rd 69 (.int .i64 op) (by kernel_rfl) (by kernel_rfl) (by kernel_rfl) (by kernel_rfl) ((by kernel_rfl : _ = val (aload T20 3 (.pointer (some ⟨H.n, 0, none⟩)) H3_) H3_).trans (val_to ((aload_at gH3_H_n).trans (by kernel_rfl)) (by kernel_rfl))) ?_
  refine aopsU_ask 70 (.int .i64 2) 15 #[.int .i64 op] (by kernel_rfl) (by kernel_rfl) (by kernel_rfl) (by kernel_rfl) (show some (Value.int .i64 (sizeV op)) = _ by rw [hz]) ?_
  refine aopsU_go 1 (by kernel_rfl) ?_
  refine aopsU_look 72 (.int .i64 op) (.pointer (some ⟨H.n, 0, none⟩)) (.tmp 71) H3_ (by kernel_rfl) (by kernel_rfl) (by kernel_rfl) (by kernel_rfl) (by kernel_rfl) (by kernel_rfl) ((by kernel_rfl : _ = aload T20 3 (.pointer (some ⟨H.n, 0, none⟩)) H3_).trans ((aload_at gH3_H_n).trans (by kernel_rfl))) (veq_int _ _) (lowB_ptr (by omega)) ((by kernel_rfl : _ = val (aload T20 3 (.pointer (some ⟨H.n, 0, none⟩)) H3_) H3_).trans (val_to ((aload_at gH3_H_n).trans (by kernel_rfl)) (by kernel_rfl))) ?_
  refine aopsU_ask 73 (.int .i64 2) 29 #[.int .i64 op] (by kernel_rfl) (by kernel_rfl) (by kernel_rfl) (by kernel_rfl) (show some (Value.int .i64 (sizeV op)) = _ by rw [hz]) ?_
  refine aopsU_go 3 (by kernel_rfl) ?_
  refine aopsU_rd 77 (.int .i64 op) (by kernel_rfl) (by kernel_rfl) (by kernel_rfl) (by kernel_rfl) ((by kernel_rfl : _ = val (aload T20 3 (.pointer (some ⟨H.n, 0, none⟩)) H3_) H3_).trans (val_to ((aload_at gH3_H_n).trans (by kernel_rfl)) (by kernel_rfl))) ?_
  refine aopsU_ask 78 (.bool (endsV op)) 17 #[.int .i64 op] (by kernel_rfl) (by kernel_rfl) (by kernel_rfl) (by kernel_rfl) rfl ?_
  refine aopsU_go 1 (by kernel_rfl) ?_
  refine aopsU_look 80 (.int .i64 op) (.pointer (some ⟨H.n, 0, none⟩)) (.tmp 79) H3_ (by kernel_rfl) (by kernel_rfl) (by kernel_rfl) (by kernel_rfl) (by kernel_rfl) (by kernel_rfl) ((by kernel_rfl : _ = aload T20 3 (.pointer (some ⟨H.n, 0, none⟩)) H3_).trans ((aload_at gH3_H_n).trans (by kernel_rfl))) (veq_int _ _) (lowB_ptr (by omega)) ((by kernel_rfl : _ = val (aload T20 3 (.pointer (some ⟨H.n, 0, none⟩)) H3_) H3_).trans (val_to ((aload_at gH3_H_n).trans (by kernel_rfl)) (by kernel_rfl))) ?_
  refine aopsU_ask 81 (.bool (endsV op)) 32 #[.int .i64 op] (by kernel_rfl) (by kernel_rfl) (by kernel_rfl) (by kernel_rfl) rfl ?_
  refine aopsU_go 3 (by kernel_rfl) ?_
  refine aopsU_see 84 (.bool true) (see_bool (by kernel_rfl) ((by simp) : (((endsV op) == (endsV op))) = true)) ?_
  refine aopsU_go 1 (by kernel_rfl) ?_
  refine aopsU_rd 86 (.int .i64 op) (by kernel_rfl) (by kernel_rfl) (by kernel_rfl) (by kernel_rfl) ((by kernel_rfl : _ = val (aload T20 3 (.pointer (some ⟨H.n, 0, none⟩)) H3_) H3_).trans (val_to ((aload_at gH3_H_n).trans (by kernel_rfl)) (by kernel_rfl))) ?_
  refine aopsU_ask 87 (.bool (plainV op)) 18 #[.int .i64 op] (by kernel_rfl) (by kernel_rfl) (by kernel_rfl) (by kernel_rfl) rfl ?_
  refine aopsU_go 1 (by kernel_rfl) ?_
  refine aopsU_look 89 (.int .i64 op) (.pointer (some ⟨H.n, 0, none⟩)) (.tmp 88) H3_ (by kernel_rfl) (by kernel_rfl) (by kernel_rfl) (by kernel_rfl) (by kernel_rfl) (by kernel_rfl) ((by kernel_rfl : _ = aload T20 3 (.pointer (some ⟨H.n, 0, none⟩)) H3_).trans ((aload_at gH3_H_n).trans (by kernel_rfl))) (veq_int _ _) (lowB_ptr (by omega)) ((by kernel_rfl : _ = val (aload T20 3 (.pointer (some ⟨H.n, 0, none⟩)) H3_) H3_).trans (val_to ((aload_at gH3_H_n).trans (by kernel_rfl)) (by kernel_rfl))) ?_
  refine aopsU_ask 90 (.bool (plainV op)) 33 #[.int .i64 op] (by kernel_rfl) (by kernel_rfl) (by kernel_rfl) (by kernel_rfl) rfl ?_
  refine aopsU_go 3 (by kernel_rfl) ?_
  refine aopsU_see 93 (.bool true) (see_bool (by kernel_rfl) ((by simp) : (((plainV op) == (plainV op))) = true)) ?_
  refine aopsU_go 1 (by kernel_rfl) ?_
  refine aopsU_rd 95 (.int .i64 op) (by kernel_rfl) (by kernel_rfl) (by kernel_rfl) (by kernel_rfl) ((by kernel_rfl : _ = val (aload T20 3 (.pointer (some ⟨H.n, 0, none⟩)) H3_) H3_).trans (val_to ((aload_at gH3_H_n).trans (by kernel_rfl)) (by kernel_rfl))) ?_
  refine aopsU_ask 96 (.bool (superV op)) 16 #[.int .i64 op] (by kernel_rfl) (by kernel_rfl) (by kernel_rfl) (by kernel_rfl) rfl ?_
  refine aopsU_go 1 (by kernel_rfl) ?_
  refine aopsU_look 98 (.int .i64 op) (.pointer (some ⟨H.n, 0, none⟩)) (.tmp 97) H3_ (by kernel_rfl) (by kernel_rfl) (by kernel_rfl) (by kernel_rfl) (by kernel_rfl) (by kernel_rfl) ((by kernel_rfl : _ = aload T20 3 (.pointer (some ⟨H.n, 0, none⟩)) H3_).trans ((aload_at gH3_H_n).trans (by kernel_rfl))) (veq_int _ _) (lowB_ptr (by omega)) ((by kernel_rfl : _ = val (aload T20 3 (.pointer (some ⟨H.n, 0, none⟩)) H3_) H3_).trans (val_to ((aload_at gH3_H_n).trans (by kernel_rfl)) (by kernel_rfl))) ?_
  refine aopsU_ask 99 (.bool (superV op)) 34 #[.int .i64 op] (by kernel_rfl) (by kernel_rfl) (by kernel_rfl) (by kernel_rfl) rfl ?_
  refine aopsU_go 2 (by kernel_rfl) ?_
  refine aopsU_see 101 (.bool true) (see_bool (x := ((superV op) == (superV op))) (by kernel_rfl) (by simp)) ?_
  refine aopsU_go 1 (by kernel_rfl) ?_
  refine aopsU_end (by kernel_rfl) (then_normal ?_)
  refine aw_ret (bodyQ_ret_to (.bool true) H3_ (by kernel_rfl) (by kernel_rfl) ?_)
  exact ⟨rfl, by omega, fun b hb => by rw [uH3_.get _ (by omega), uH2_.get _ (by omega), hH1_, Heap.get_push, if_neg (by omega)]⟩
set_option maxHeartbeats 1000000 in
theorem same_five {op N : Int} {H : Heap} (hN0 : u32B N = true) (hr : rightV op N = true) (hz : sizeV op = 5) : ACall Tryd.prog T20 9 #[.agg #[.int .i64 op, .int .u32 N]] H fun r H' => r = .bool true ∧ Up H.n H H' := by
  refine acall_of' 102 (initTm 0 #[.agg #[.int .i64 op, .int .u32 N]]) rfl f9_fn f9_body rfl rfl ?_
  refine aw_code f9b_eq ?_
  refine aw_then ?_
  refine aw_code f9ba_eq ?_
  refine aw_reg ?_
  obtain ⟨H1_, hH1_⟩ : ∃ x : Heap, x = H.push ⟨[Value.int .i64 op, .int .u32 N], 26, false⟩ := ⟨_, rfl⟩
  have nH1_ : H1_.n = H.n + 1 := by rw [hH1_]; rfl
  refine aops_val 1 (.pointer (some ⟨H.n, 0, none⟩)) H1_ (by kernel_rfl) (by kernel_rfl) (by kernel_rfl) ((by kernel_rfl : _ = some (Res.val (.pointer (some ⟨H.n, 0, none⟩)), H.push ⟨[Value.int .i64 op, .int .u32 N], 26, false⟩)).trans (by rw [← hH1_])) ?_
  refine aops_go 1 60 (by kernel_rfl) ?_
  refine aops_end (by kernel_rfl) (then_normal ?_)
  refine aw_code f9bc_eq ?_
  refine aw_then ?_
  refine aw_code f9bca_eq ?_
  refine aw_reg ?_
  have gH1_H_n : H1_.get (H.n) = some ⟨[Value.int .i64 op, .int .u32 N], 26, false⟩ := by rw [hH1_]; exact (Heap.get_push _ _ _).trans (if_pos rfl)
  refine aops_val 8 (.agg #[.int .i64 op, .int .u32 N]) H1_ (by kernel_rfl) (by kernel_rfl) (by kernel_rfl) ((by kernel_rfl : _ = val (aload T20 26 (.pointer (some ⟨H.n, 0, none⟩)) H1_) H1_).trans (val_of ((aload_at gH1_H_n).trans (by kernel_rfl)))) ?_
  refine aops_call_to 9 25 #[.agg #[.int .i64 op, .int .u32 N]] H1_ (by kernel_rfl) (by kernel_rfl) (fun v => (by kernel_rfl)) (by kernel_rfl) (by kernel_rfl) (enc_ok hr) ?_
  rintro _ H2_ ⟨bv, rfl, hgr, uH2_⟩
  have nH2_ := uH2_.n
  have hle : (encL op N).length = 5 := by simp [encL, hz]
  have hen : encL op N = [by0 op, byN N 1, byN N 256, byN N 65536, byN N 16777216] := by simp [encL, hz]
  obtain ⟨B1, rfl, gB1, hB1, hlB1⟩ : ∃ B1, bv = .slice (some ⟨B1, 0, none⟩) 5 (unk + 1) ∧ H2_.get B1 = some ⟨[by0 op, byN N 1, byN N 256, byN N 65536, byN N 16777216], 5, false⟩ ∧ B1 < H2_.n ∧ H1_.n ≤ B1 := by
    rcases hgr.at_ with ⟨_, h0⟩ | ⟨B1, e, g, h1, h2⟩
    · omega
    · exact ⟨B1, by rw [e, hle], by rw [g, hen], h1, h2⟩
  refine aops_go 5 60 (by kernel_rfl) ?_
  refine aops_end (by kernel_rfl) (then_normal ?_)
  refine aw_code f9bcc_eq ?_
  refine aw_then ?_
  refine aw_code f9bcca_eq ?_
  refine aw_reg ?_
  have gH2_H_n : H2_.get (H.n) = some ⟨[Value.int .i64 op, .int .u32 N], 26, false⟩ := by rw [uH2_.get _ (by omega)]; exact gH1_H_n
  refine aops_val 12 (.agg #[.int .i64 op, .int .u32 N]) H2_ (by kernel_rfl) (by kernel_rfl) (by kernel_rfl) ((by kernel_rfl : _ = val (aload T20 26 (.pointer (some ⟨H.n, 0, none⟩)) H2_) H2_).trans (val_of ((aload_at gH2_H_n).trans (by kernel_rfl)))) ?_
  refine aops_ask 13 (.bool (rightV op N)) 27 #[.agg #[.int .i64 op, .int .u32 N]] (by kernel_rfl) (by kernel_rfl) (by kernel_rfl) (by kernel_rfl) rfl ?_
  refine aops_go 1 60 (by kernel_rfl) ?_
  refine aops_end (by kernel_rfl) (then_normal ?_)
  refine aw_code f9bccc_eq ?_
  refine aw_then ?_
  refine aw_code f9bccca_eq ?_
  refine aw_reg ?_
  refine aops_go 1 60 (by kernel_rfl) ?_
  refine aops_end (by kernel_rfl) (then_normal ?_)
  refine aw_code f9bcccc_eq ?_
  refine aw_then ?_
  refine aw_code f9bcccca_eq ?_
  refine aw_then ?_
  refine aw_code f9bccccaa_eq ?_
  refine aw_reg ?_
  refine aops_go 1 60 (by kernel_rfl) ?_
  refine aops_end (by kernel_rfl) (then_normal ?_)
  refine aw_code f9bccccac_eq ?_
  refine aw_cond (t := true) (see_bool (by kernel_rfl) (hr : ((rightV op N)) = true)) ?_
  refine aw_code f9bccccaca_eq ?_
  refine aw_then ?_
  refine aw_code f9bccccacaa_eq ?_
  refine aw_reg ?_
  refine aops_go 1 60 (by kernel_rfl) ?_
  refine aops_val 16 (.int .i64 op) H2_ (by kernel_rfl) (by kernel_rfl) (by kernel_rfl) ((by kernel_rfl : _ = val (aload T20 3 (.pointer (some ⟨H.n, 0, none⟩)) H2_) H2_).trans (val_of ((aload_at gH2_H_n).trans (by kernel_rfl)))) ?_
  refine aops_ask 17 (.string (nameV op)) 28 #[.int .i64 op] (by kernel_rfl) (by kernel_rfl) (by kernel_rfl) (by kernel_rfl) rfl ?_
  refine aops_go 1 60 (by kernel_rfl) ?_
  refine aops_end (by kernel_rfl) (then_normal ?_)
  refine aw_code f9bccccacac_eq ?_
  refine aw_then ?_
  refine aw_code f9bccccacaca_eq ?_
  refine aw_reg ?_
  refine aops_go 1 60 (by kernel_rfl) ?_
  refine aops_val 19 (.int .i64 op) H2_ (by kernel_rfl) (by kernel_rfl) (by kernel_rfl) ((by kernel_rfl : _ = val (aload T20 3 (.pointer (some ⟨H.n, 0, none⟩)) H2_) H2_).trans (val_of ((aload_at gH2_H_n).trans (by kernel_rfl)))) ?_
  refine aops_ask 20 (.int .i64 5) 29 #[.int .i64 op] (by kernel_rfl) (by kernel_rfl) (by kernel_rfl) (by kernel_rfl) (show some (Value.int .i64 (sizeV op)) = _ by rw [hz]) ?_
  refine aops_go 1 60 (by kernel_rfl) ?_
  refine aops_end (by kernel_rfl) (then_normal ?_)
  refine aw_code f9bccccacacc_eq ?_
  refine aw_cond (t := true) (by kernel_rfl) ?_
  refine aw_code f9bccccacacca_eq ?_
  refine aw_reg ?_
  refine aops_go 1 60 (by kernel_rfl) ?_
  refine aops_val 23 (.string ((nameV op) ++ ⟨⟨[32]⟩⟩)) H2_ (by kernel_rfl) (by kernel_rfl) (by kernel_rfl) (ha_fb (op := .add) (t := 9) (a := .tmp 22) (b := .const (.string ⟨⟨[32]⟩⟩)) (u := .string (nameV op)) (v := .string ⟨⟨[32]⟩⟩) (by kernel_rfl) (by kernel_rfl) (by kernel_rfl) rfl rfl rfl (sadd_run (by (try simp only [size_app]); have h1 := nameV_size op; have h2 := dec_size N hN0; have h3 : (⟨⟨[32]⟩⟩ : ByteArray).size = 1 := rfl; omega)) rfl) ?_
  refine aops_go 1 60 (by kernel_rfl) ?_
  refine aops_val 25 (.int .u32 N) H2_ (by kernel_rfl) (by kernel_rfl) (by kernel_rfl) ((by kernel_rfl : _ = val (aload T20 22 (.pointer (some ⟨H.n, 1, none⟩)) H2_) H2_).trans (val_of ((aload_at gH2_H_n).trans (by kernel_rfl)))) ?_
  refine aops_ask 26 (.string (dec N)) 30 #[.int .u32 N] (by kernel_rfl) (by kernel_rfl) (by kernel_rfl) (by kernel_rfl) (orc30 N hN0) ?_
  refine aops_val 27 (.string (((nameV op) ++ ⟨⟨[32]⟩⟩) ++ (dec N))) H2_ (by kernel_rfl) (by kernel_rfl) (by kernel_rfl) (ha_fb (op := .add) (t := 9) (a := .tmp 23) (b := .tmp 26) (u := .string ((nameV op) ++ ⟨⟨[32]⟩⟩)) (v := .string (dec N)) (by kernel_rfl) (by kernel_rfl) (by kernel_rfl) rfl rfl rfl (sadd_run (by (try simp only [size_app]); have h1 := nameV_size op; have h2 := dec_size N hN0; have h3 : (⟨⟨[32]⟩⟩ : ByteArray).size = 1 := rfl; omega)) rfl) ?_
  refine aops_go 1 60 (by kernel_rfl) ?_
  refine aops_end (by kernel_rfl) (then_normal ?_)
  refine aw_code f9bccccc_eq ?_
  refine aw_then ?_
  refine aw_code f9bccccca_eq ?_
  refine aw_then ?_
  refine aw_code f9bcccccaa_eq ?_
  refine aw_drawU (H2_.n) ?_
  refine aopsU_rd 28 (.agg #[.int .i64 op, .int .u32 N]) (by kernel_rfl) (by kernel_rfl) (by kernel_rfl) (by kernel_rfl) ((by kernel_rfl : _ = val (aload T20 26 (.pointer (some ⟨H.n, 0, none⟩)) H2_) H2_).trans (val_to ((aload_at gH2_H_n).trans (by kernel_rfl)) (by kernel_rfl))) ?_
  refine aopsU_ask 29 (.bool (rightV op N)) 19 #[.agg #[.int .i64 op, .int .u32 N]] (by kernel_rfl) (by kernel_rfl) (by kernel_rfl) (by kernel_rfl) rfl ?_
  refine aopsU_go 3 (by kernel_rfl) ?_
  refine aopsU_see 32 (.bool false) (see_bool (by kernel_rfl) ((by simp) : (((rightV op N) != (rightV op N))) = false)) ?_
  refine aopsU_rd 33 (.agg #[.int .i64 op, .int .u32 N]) (by kernel_rfl) (by kernel_rfl) (by kernel_rfl) (by kernel_rfl) ((by kernel_rfl : _ = val (aload T20 26 (.pointer (some ⟨H.n, 0, none⟩)) H2_) H2_).trans (val_to ((aload_at gH2_H_n).trans (by kernel_rfl)) (by kernel_rfl))) ?_
  refine aopsU_ask 34 (.string (textV op N)) 20 #[.agg #[.int .i64 op, .int .u32 N]] (by kernel_rfl) (by kernel_rfl) (by kernel_rfl) (by kernel_rfl) (orc20 op N hN0) ?_
  refine aopsU_go 1 (by kernel_rfl) ?_
  refine aopsU_pt 36 (.bool (!(decide ((textV op N) = (((nameV op) ++ ⟨⟨[32]⟩⟩) ++ (dec N)))))) (by kernel_rfl) (by kernel_rfl) (by kernel_rfl) (by kernel_rfl) (ha_fb (op := .neq) (t := 9) (a := .tmp 34) (b := .tmp 35) (u := .string (textV op N)) (v := .string (((nameV op) ++ ⟨⟨[32]⟩⟩) ++ (dec N))) (by kernel_rfl) (by kernel_rfl) (by kernel_rfl) rfl rfl rfl (sne_run (by rw [Bool.not_not])) rfl) ?_
  refine aopsU_go 2 (by kernel_rfl) ?_
  refine aopsU_see 38 (.bool false) (see_bool (by kernel_rfl) ((by rw [text_two hr (by rw [hz]; rfl)]; simp) : ((!(decide ((textV op N) = (((nameV op) ++ ⟨⟨[32]⟩⟩) ++ (dec N)))))) = false)) ?_
  refine aopsU_go 6 (by kernel_rfl) ?_
  refine aopsU_see 44 (.bool false) (see_bool (by kernel_rfl) ((by rw [hr]; rfl) : ((true != (rightV op N))) = false)) ?_
  refine aopsU_go 3 (by kernel_rfl) ?_
  refine aopsU_see 47 (.bool false) (see_bool (by kernel_rfl) ((by rw [hr]; rfl) : (!(rightV op N)) = false)) ?_
  refine aopsU_go 12 (by kernel_rfl) ?_
  refine aopsU_see 59 (.bool true) (see_bool (by kernel_rfl) (hr : ((rightV op N)) = true)) ?_
  refine aopsU_go 1 (by kernel_rfl) ?_
  refine aopsU_look 61 (.string (bstr [by0 op, byN N 1, byN N 256, byN N 65536, byN N 16777216])) (.slice (some ⟨B1, 0, none⟩) 5 (unk + 1)) (.tmp 60) H2_ (by kernel_rfl) (by kernel_rfl) (by kernel_rfl) (by kernel_rfl) (by kernel_rfl) (by kernel_rfl) ((by kernel_rfl : _ = aconvert T20 27 9 (.slice (some ⟨B1, 0, none⟩) 5 (unk + 1)) H2_).trans (aconv_at (T := T20) (s := 27) (d := 9) (e := 5) (off := 0) (n := 5) (cap := unk + 1) (by kernel_rfl) (by kernel_rfl) (by kernel_rfl) (l := [by0 op, byN N 1, byN N 256, byN N 65536, byN N 16777216]) gB1 rfl rfl rfl)) (by simp [veq, veq0]) (lowB_slice (by omega)) (ha_cv (H := H2_) (s := 27) (d := 9) (x := .tmp 60) (u := .slice (some ⟨B1, 0, none⟩) 5 (unk + 1)) (by kernel_rfl) (by kernel_rfl) (by kernel_rfl) (aconv_at (T := T20) (s := 27) (d := 9) (e := 5) (off := 0) (n := 5) (cap := unk + 1) (by kernel_rfl) (by kernel_rfl) (by kernel_rfl) (l := [by0 op, byN N 1, byN N 256, byN N 65536, byN N 16777216]) gB1 rfl rfl rfl) (by kernel_rfl)) ?_
  refine aopsU_rd 62 (.agg #[.int .i64 op, .int .u32 N]) (by kernel_rfl) (by kernel_rfl) (by kernel_rfl) (by kernel_rfl) ((by kernel_rfl : _ = val (aload T20 26 (.pointer (some ⟨H.n, 0, none⟩)) H2_) H2_).trans (val_to ((aload_at gH2_H_n).trans (by kernel_rfl)) (by kernel_rfl))) ?_
  refine aopsU_call 63 31 #[.agg #[.int .i64 op, .int .u32 N]] H2_ (by kernel_rfl) (by kernel_rfl) (fun v => (by kernel_rfl)) (by kernel_rfl) (by kernel_rfl) (renc_5 (N := N) hz) (fun v H2 h2 => by obtain ⟨_, _, _, _, _, u⟩ := h2; exact u.mono (by omega)) ?_
  rintro _ H3_ ⟨B2, cap2, rfl, gB2, hB2, uH3_⟩
  have nH3_ := uH3_.n
  refine aopsU_rd 64 (.string (bstr [by0 op, byN N 1, byN N 256, byN N 65536, byN N 16777216])) (by kernel_rfl) (by kernel_rfl) (by kernel_rfl) (by kernel_rfl) (ha_cv (H := H3_) (s := 27) (d := 9) (x := .tmp 63) (u := .slice (some ⟨B2, 0, none⟩) 5 cap2) (by kernel_rfl) (by kernel_rfl) (by kernel_rfl) (aconv_at (T := T20) (s := 27) (d := 9) (e := 5) (off := 0) (n := 5) (cap := cap2) (by kernel_rfl) (by kernel_rfl) (by kernel_rfl) (l := [by0 op, byN N 1, byN N 256, byN N 65536, byN N 16777216]) gB2 rfl rfl rfl) (by kernel_rfl)) ?_
  refine aopsU_pt 65 (.bool (!(decide ((bstr [by0 op, byN N 1, byN N 256, byN N 65536, byN N 16777216]) = (bstr [by0 op, byN N 1, byN N 256, byN N 65536, byN N 16777216]))))) (by kernel_rfl) (by kernel_rfl) (by kernel_rfl) (by kernel_rfl) (ha_fb (op := .neq) (t := 9) (a := .tmp 61) (b := .tmp 64) (u := .string (bstr [by0 op, byN N 1, byN N 256, byN N 65536, byN N 16777216])) (v := .string (bstr [by0 op, byN N 1, byN N 256, byN N 65536, byN N 16777216])) (by kernel_rfl) (by kernel_rfl) (by kernel_rfl) rfl rfl rfl (sne_run (by rw [Bool.not_not])) rfl) ?_
  refine aopsU_go 2 (by kernel_rfl) ?_
  refine aopsU_end (by kernel_rfl) (then_normal ?_)
  refine aw_code f9bcccccac_eq ?_
  refine aw_cond (t := false) (see_bool (by kernel_rfl) ((by simp) : ((!(decide ((bstr [by0 op, byN N 1, byN N 256, byN N 65536, byN N 16777216]) = (bstr [by0 op, byN N 1, byN N 256, byN N 65536, byN N 16777216]))))) = false)) ?_
  refine aw_skip (then_normal ?_)
  refine aw_code f9bcccccc_eq ?_
  refine aw_then ?_
  refine aw_code f9bcccccca_eq ?_
  refine aw_drawU (H3_.n) ?_
  refine aopsU_go 1 (by kernel_rfl) ?_
  have gH3_H_n : H3_.get (H.n) = some ⟨[Value.int .i64 op, .int .u32 N], 26, false⟩ := by rw [uH3_.get _ (by omega)]; exact gH2_H_n
  refine aopsU_rd 69 (.int .i64 op) (by kernel_rfl) (by kernel_rfl) (by kernel_rfl) (by kernel_rfl) ((by kernel_rfl : _ = val (aload T20 3 (.pointer (some ⟨H.n, 0, none⟩)) H3_) H3_).trans (val_to ((aload_at gH3_H_n).trans (by kernel_rfl)) (by kernel_rfl))) ?_
  refine aopsU_ask 70 (.int .i64 5) 15 #[.int .i64 op] (by kernel_rfl) (by kernel_rfl) (by kernel_rfl) (by kernel_rfl) (show some (Value.int .i64 (sizeV op)) = _ by rw [hz]) ?_
  refine aopsU_go 1 (by kernel_rfl) ?_
  refine aopsU_look 72 (.int .i64 op) (.pointer (some ⟨H.n, 0, none⟩)) (.tmp 71) H3_ (by kernel_rfl) (by kernel_rfl) (by kernel_rfl) (by kernel_rfl) (by kernel_rfl) (by kernel_rfl) ((by kernel_rfl : _ = aload T20 3 (.pointer (some ⟨H.n, 0, none⟩)) H3_).trans ((aload_at gH3_H_n).trans (by kernel_rfl))) (veq_int _ _) (lowB_ptr (by omega)) ((by kernel_rfl : _ = val (aload T20 3 (.pointer (some ⟨H.n, 0, none⟩)) H3_) H3_).trans (val_to ((aload_at gH3_H_n).trans (by kernel_rfl)) (by kernel_rfl))) ?_
  refine aopsU_ask 73 (.int .i64 5) 29 #[.int .i64 op] (by kernel_rfl) (by kernel_rfl) (by kernel_rfl) (by kernel_rfl) (show some (Value.int .i64 (sizeV op)) = _ by rw [hz]) ?_
  refine aopsU_go 3 (by kernel_rfl) ?_
  refine aopsU_rd 77 (.int .i64 op) (by kernel_rfl) (by kernel_rfl) (by kernel_rfl) (by kernel_rfl) ((by kernel_rfl : _ = val (aload T20 3 (.pointer (some ⟨H.n, 0, none⟩)) H3_) H3_).trans (val_to ((aload_at gH3_H_n).trans (by kernel_rfl)) (by kernel_rfl))) ?_
  refine aopsU_ask 78 (.bool (endsV op)) 17 #[.int .i64 op] (by kernel_rfl) (by kernel_rfl) (by kernel_rfl) (by kernel_rfl) rfl ?_
  refine aopsU_go 1 (by kernel_rfl) ?_
  refine aopsU_look 80 (.int .i64 op) (.pointer (some ⟨H.n, 0, none⟩)) (.tmp 79) H3_ (by kernel_rfl) (by kernel_rfl) (by kernel_rfl) (by kernel_rfl) (by kernel_rfl) (by kernel_rfl) ((by kernel_rfl : _ = aload T20 3 (.pointer (some ⟨H.n, 0, none⟩)) H3_).trans ((aload_at gH3_H_n).trans (by kernel_rfl))) (veq_int _ _) (lowB_ptr (by omega)) ((by kernel_rfl : _ = val (aload T20 3 (.pointer (some ⟨H.n, 0, none⟩)) H3_) H3_).trans (val_to ((aload_at gH3_H_n).trans (by kernel_rfl)) (by kernel_rfl))) ?_
  refine aopsU_ask 81 (.bool (endsV op)) 32 #[.int .i64 op] (by kernel_rfl) (by kernel_rfl) (by kernel_rfl) (by kernel_rfl) rfl ?_
  refine aopsU_go 3 (by kernel_rfl) ?_
  refine aopsU_see 84 (.bool true) (see_bool (by kernel_rfl) ((by simp) : (((endsV op) == (endsV op))) = true)) ?_
  refine aopsU_go 1 (by kernel_rfl) ?_
  refine aopsU_rd 86 (.int .i64 op) (by kernel_rfl) (by kernel_rfl) (by kernel_rfl) (by kernel_rfl) ((by kernel_rfl : _ = val (aload T20 3 (.pointer (some ⟨H.n, 0, none⟩)) H3_) H3_).trans (val_to ((aload_at gH3_H_n).trans (by kernel_rfl)) (by kernel_rfl))) ?_
  refine aopsU_ask 87 (.bool (plainV op)) 18 #[.int .i64 op] (by kernel_rfl) (by kernel_rfl) (by kernel_rfl) (by kernel_rfl) rfl ?_
  refine aopsU_go 1 (by kernel_rfl) ?_
  refine aopsU_look 89 (.int .i64 op) (.pointer (some ⟨H.n, 0, none⟩)) (.tmp 88) H3_ (by kernel_rfl) (by kernel_rfl) (by kernel_rfl) (by kernel_rfl) (by kernel_rfl) (by kernel_rfl) ((by kernel_rfl : _ = aload T20 3 (.pointer (some ⟨H.n, 0, none⟩)) H3_).trans ((aload_at gH3_H_n).trans (by kernel_rfl))) (veq_int _ _) (lowB_ptr (by omega)) ((by kernel_rfl : _ = val (aload T20 3 (.pointer (some ⟨H.n, 0, none⟩)) H3_) H3_).trans (val_to ((aload_at gH3_H_n).trans (by kernel_rfl)) (by kernel_rfl))) ?_
  refine aopsU_ask 90 (.bool (plainV op)) 33 #[.int .i64 op] (by kernel_rfl) (by kernel_rfl) (by kernel_rfl) (by kernel_rfl) rfl ?_
  refine aopsU_go 3 (by kernel_rfl) ?_
  refine aopsU_see 93 (.bool true) (see_bool (by kernel_rfl) ((by simp) : (((plainV op) == (plainV op))) = true)) ?_
  refine aopsU_go 1 (by kernel_rfl) ?_
  refine aopsU_rd 95 (.int .i64 op) (by kernel_rfl) (by kernel_rfl) (by kernel_rfl) (by kernel_rfl) ((by kernel_rfl : _ = val (aload T20 3 (.pointer (some ⟨H.n, 0, none⟩)) H3_) H3_).trans (val_to ((aload_at gH3_H_n).trans (by kernel_rfl)) (by kernel_rfl))) ?_
  refine aopsU_ask 96 (.bool (superV op)) 16 #[.int .i64 op] (by kernel_rfl) (by kernel_rfl) (by kernel_rfl) (by kernel_rfl) rfl ?_
  refine aopsU_go 1 (by kernel_rfl) ?_
  refine aopsU_look 98 (.int .i64 op) (.pointer (some ⟨H.n, 0, none⟩)) (.tmp 97) H3_ (by kernel_rfl) (by kernel_rfl) (by kernel_rfl) (by kernel_rfl) (by kernel_rfl) (by kernel_rfl) ((by kernel_rfl : _ = aload T20 3 (.pointer (some ⟨H.n, 0, none⟩)) H3_).trans ((aload_at gH3_H_n).trans (by kernel_rfl))) (veq_int _ _) (lowB_ptr (by omega)) ((by kernel_rfl : _ = val (aload T20 3 (.pointer (some ⟨H.n, 0, none⟩)) H3_) H3_).trans (val_to ((aload_at gH3_H_n).trans (by kernel_rfl)) (by kernel_rfl))) ?_
  refine aopsU_ask 99 (.bool (superV op)) 34 #[.int .i64 op] (by kernel_rfl) (by kernel_rfl) (by kernel_rfl) (by kernel_rfl) rfl ?_
  refine aopsU_go 2 (by kernel_rfl) ?_
  refine aopsU_see 101 (.bool true) (see_bool (x := ((superV op) == (superV op))) (by kernel_rfl) (by simp)) ?_
  refine aopsU_go 1 (by kernel_rfl) ?_
  refine aopsU_end (by kernel_rfl) (then_normal ?_)
  refine aw_ret (bodyQ_ret_to (.bool true) H3_ (by kernel_rfl) (by kernel_rfl) ?_)
  exact ⟨rfl, by omega, fun b hb => by rw [uH3_.get _ (by omega), uH2_.get _ (by omega), hH1_, Heap.get_push, if_neg (by omega)]⟩
theorem same_any (op N : Int) (hN0 : u32B N = true) (H : Heap) : ACall Tryd.prog T20 9 #[.agg #[.int .i64 op, .int .u32 N]] H fun r H' => r = .bool true ∧ Up H.n H H' := by
  cases hr : rightV op N
  · exact same_no hN0 hr
  · rcases right_size hr with hz | hz | hz
    · exact same_one hN0 hr hz
    · exact same_two hN0 hr hz
    · exact same_five hN0 hr hz
def sp9 : List Value → Option Value
  | [.agg a] => match a.toList with
    | [.int .i64 op, .int .u32 N] => bif u32B N then some (.bool true) else none
    | _ => none
  | _ => none
noncomputable def T21 : Tab := { T20 with orc := addOrc T20.orc 9 sp9 }
theorem progOk21 [Bs] [Tb] : ProgOk Tryd.prog T21 := progOk20.know 9 sp9 fun args v h => by
  unfold sp9 at h
  split at h
  · rename_i a
    split at h
    · rename_i op N e
      cases hb : u32B N
      · rw [hb] at h; cases h
      · rw [hb] at h; cases h
        have : a = #[.int .i64 op, .int .u32 N] := Array.ext' e
        subst this
        exact ⟨rfl, rfl, (same_any op N hb _).mono fun r H' h => h.1⟩
    · cases h
  · cases h
theorem orc9 (op N : Int) (h : u32B N = true) : sp9 [.agg #[.int .i64 op, .int .u32 N]] = some (.bool true) := by
  simp only [sp9, h, cond_true]
end Gc
end Go.Proofs.YtpfmmckbfejfnaaDoor
