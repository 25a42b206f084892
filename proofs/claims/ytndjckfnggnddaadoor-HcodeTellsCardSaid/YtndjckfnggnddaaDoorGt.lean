/- Chapter 3: same answers true. -/
import Derived.Test.YtndjckfnggnddaaDoorGs
namespace Go.Proofs.YtndjckfnggnddaaDoor
open Go Go.Ev Go.RowKit
set_option linter.unusedVariables false
set_option linter.unusedSimpArgs false
set_option maxRecDepth 100000
namespace Hc
theorem bytes_enc (op rd ra rb im : Int) : bytesOf (enc8 op rd ra rb im) = some (bstr (enc8 op rd ra rb im)) := rfl
theorem text_yes {op rd ra rb im : Int} (h : rightV op rd ra rb im = true) : textV op rd ra rb im = textR op rd ra rb im := by unfold textV; rw [h]; rfl
theorem text_no {op rd ra rb im : Int} (h : rightV op rd ra rb im = false) : textV op rd ra rb im = ⟨⟨[63]⟩⟩ := by unfold textV; rw [h]; rfl
noncomputable def f7b : Code := Tryd.f7.body.getD .skip
noncomputable def f7ba : Code := cl f7b
noncomputable def f7bao : Array Oper := opsOf f7ba
noncomputable def f7bc : Code := cr f7b
noncomputable def f7bca : Code := cl f7bc
noncomputable def f7bcao : Array Oper := opsOf f7bca
noncomputable def f7bcc : Code := cr f7bc
noncomputable def f7bcca : Code := cl f7bcc
noncomputable def f7bccao : Array Oper := opsOf f7bcca
noncomputable def f7bccc : Code := cr f7bcc
noncomputable def f7bccca : Code := cl f7bccc
noncomputable def f7bcccao : Array Oper := opsOf f7bccca
noncomputable def f7bcccc : Code := cr f7bccc
noncomputable def f7bcccca : Code := cl f7bcccc
noncomputable def f7bccccaa : Code := cl f7bcccca
noncomputable def f7bccccaao : Array Oper := opsOf f7bccccaa
noncomputable def f7bccccac : Code := cr f7bcccca
noncomputable def f7bccccaca : Code := cl f7bccccac
noncomputable def f7bccccacao : Array Oper := opsOf f7bccccaca
noncomputable def f7bccccc : Code := cr f7bcccc
noncomputable def f7bccccca : Code := cl f7bccccc
noncomputable def f7bcccccao : Array Oper := opsOf f7bccccca
theorem f7ba_eq : f7ba = .region 0 f7bao false := by kernel_rfl
theorem f7bca_eq : f7bca = .region 1 f7bcao false := by kernel_rfl
theorem f7bcca_eq : f7bcca = .region 2 f7bccao false := by kernel_rfl
theorem f7bccca_eq : f7bccca = .region 3 f7bcccao false := by kernel_rfl
theorem f7bccccaa_eq : f7bccccaa = .region 4 f7bccccaao false := by kernel_rfl
theorem f7bccccaca_eq : f7bccccaca = .region 5 f7bccccacao true := by kernel_rfl
theorem f7bccccac_eq : f7bccccac = .cond (cop f7bccccac) f7bccccaca .skip := by kernel_rfl
theorem f7bcccca_eq : f7bcccca = .seq f7bccccaa f7bccccac := by kernel_rfl
theorem f7bccccca_eq : f7bccccca = .region 6 f7bcccccao true := by kernel_rfl
theorem f7bccccc_eq : f7bccccc = .seq f7bccccca .ret := by kernel_rfl
theorem f7bcccc_eq : f7bcccc = .seq f7bcccca f7bccccc := by kernel_rfl
theorem f7bccc_eq : f7bccc = .seq f7bccca f7bcccc := by kernel_rfl
theorem f7bcc_eq : f7bcc = .seq f7bcca f7bccc := by kernel_rfl
theorem f7bc_eq : f7bc = .seq f7bca f7bcc := by kernel_rfl
theorem f7b_eq : f7b = .seq f7ba f7bc := by kernel_rfl
theorem f7_body : Tryd.f7.body = some f7b := by kernel_rfl
theorem f7_fn : T13.fn 7 = some Tryd.f7 := by kernel_rfl
set_option maxHeartbeats 1000000 in
theorem same_ok {op rd ra rb im : Int} {H : Heap} (hi : u32B im = true) (hr : rightV op rd ra rb im = true) : ACall Tryd.prog T13 7 #[.agg #[.int .i64 op, .int .i64 rd, .int .i64 ra, .int .i64 rb, .int .u32 im]] H fun r H' => r = .bool true ∧ Up H.n H H' := by
  obtain ⟨h0, h1, h2, h3⟩ := right_regs hr
  have u1 := reg_u32 h1; have u2 := reg_u32 h2; have u3 := reg_u32 h3
  have z1 := nameV_size op; have z2 := dec_size rd u1; have z3 := dec_size ra u2; have z4 := dec_size rb u3; have z5 := dec_size im hi
  simp only [regV, Bool.and_eq_true, decide_eq_true_eq] at h1 h2 h3
  obtain ⟨x1_, hx1_⟩ : ∃ s : ByteArray, s = (nameV op) ++ ⟨⟨[32]⟩⟩ := ⟨_, rfl⟩
  have h3 : (⟨⟨[32]⟩⟩ : ByteArray).size = 1 := rfl
  have zx1_ : x1_.size ≤ 11 := by rw [hx1_, size_app]; omega
  obtain ⟨x2_, hx2_⟩ : ∃ s : ByteArray, s = x1_ ++ (dec rd) := ⟨_, rfl⟩
  have h3 : (⟨⟨[32]⟩⟩ : ByteArray).size = 1 := rfl
  have zx2_ : x2_.size ≤ 31 := by rw [hx2_, size_app]; omega
  obtain ⟨x3_, hx3_⟩ : ∃ s : ByteArray, s = x2_ ++ ⟨⟨[32]⟩⟩ := ⟨_, rfl⟩
  have h3 : (⟨⟨[32]⟩⟩ : ByteArray).size = 1 := rfl
  have zx3_ : x3_.size ≤ 32 := by rw [hx3_, size_app]; omega
  obtain ⟨x4_, hx4_⟩ : ∃ s : ByteArray, s = x3_ ++ (dec ra) := ⟨_, rfl⟩
  have h3 : (⟨⟨[32]⟩⟩ : ByteArray).size = 1 := rfl
  have zx4_ : x4_.size ≤ 52 := by rw [hx4_, size_app]; omega
  obtain ⟨x5_, hx5_⟩ : ∃ s : ByteArray, s = x4_ ++ ⟨⟨[32]⟩⟩ := ⟨_, rfl⟩
  have h3 : (⟨⟨[32]⟩⟩ : ByteArray).size = 1 := rfl
  have zx5_ : x5_.size ≤ 53 := by rw [hx5_, size_app]; omega
  obtain ⟨x6_, hx6_⟩ : ∃ s : ByteArray, s = x5_ ++ (dec rb) := ⟨_, rfl⟩
  have h3 : (⟨⟨[32]⟩⟩ : ByteArray).size = 1 := rfl
  have zx6_ : x6_.size ≤ 73 := by rw [hx6_, size_app]; omega
  obtain ⟨x7_, hx7_⟩ : ∃ s : ByteArray, s = x6_ ++ ⟨⟨[32]⟩⟩ := ⟨_, rfl⟩
  have h3 : (⟨⟨[32]⟩⟩ : ByteArray).size = 1 := rfl
  have zx7_ : x7_.size ≤ 74 := by rw [hx7_, size_app]; omega
  obtain ⟨x8_, hx8_⟩ : ∃ s : ByteArray, s = x7_ ++ (dec im) := ⟨_, rfl⟩
  have h3 : (⟨⟨[32]⟩⟩ : ByteArray).size = 1 := rfl
  have zx8_ : x8_.size ≤ 94 := by rw [hx8_, size_app]; omega
  refine acall_of' 81 (initTm 0 #[.agg #[.int .i64 op, .int .i64 rd, .int .i64 ra, .int .i64 rb, .int .u32 im]]) rfl f7_fn f7_body rfl rfl ?_
  refine aw_code f7b_eq ?_
  refine aw_then ?_
  refine aw_code f7ba_eq ?_
  refine aw_reg ?_
  obtain ⟨H1_, hH1_⟩ : ∃ x : Heap, x = H.push ⟨[Value.int .i64 op, .int .i64 rd, .int .i64 ra, .int .i64 rb, .int .u32 im], 24, false⟩ := ⟨_, rfl⟩
  have nH1_ : H1_.n = H.n + 1 := by rw [hH1_]; rfl
  refine aops_val 1 (.pointer (some ⟨H.n, 0, none⟩)) H1_ (by kernel_rfl) (by kernel_rfl) (by kernel_rfl) ((by kernel_rfl : _ = some (Res.val (.pointer (some ⟨H.n, 0, none⟩)), H.push ⟨[Value.int .i64 op, .int .i64 rd, .int .i64 ra, .int .i64 rb, .int .u32 im], 24, false⟩)).trans (by rw [← hH1_])) ?_
  refine aops_go 1 60 (by kernel_rfl) ?_
  refine aops_end (by kernel_rfl) (then_normal ?_)
  refine aw_code f7bc_eq ?_
  refine aw_then ?_
  refine aw_code f7bca_eq ?_
  refine aw_reg ?_
  have gH1_H_n : H1_.get (H.n) = some ⟨[Value.int .i64 op, .int .i64 rd, .int .i64 ra, .int .i64 rb, .int .u32 im], 24, false⟩ := by rw [hH1_]; exact (Heap.get_push _ _ _).trans (if_pos rfl)
  refine aops_val 8 (.agg #[.int .i64 op, .int .i64 rd, .int .i64 ra, .int .i64 rb, .int .u32 im]) H1_ (by kernel_rfl) (by kernel_rfl) (by kernel_rfl) ((by kernel_rfl : _ = val (aload T13 24 (.pointer (some ⟨H.n, 0, none⟩)) H1_) H1_).trans (val_of ((aload_at gH1_H_n).trans (by kernel_rfl)))) ?_
  refine aops_call_to 9 12 #[.agg #[.int .i64 op, .int .i64 rd, .int .i64 ra, .int .i64 rb, .int .u32 im]] H1_ (by kernel_rfl) (by kernel_rfl) (fun v => (by kernel_rfl)) (by kernel_rfl) (by kernel_rfl) (enc_ok hr) ?_
  rintro _ H2_ ⟨B, rfl, gB, hB, hB2, uH2_⟩
  have nH2_ := uH2_.n
  refine aops_go 5 60 (by kernel_rfl) ?_
  refine aops_end (by kernel_rfl) (then_normal ?_)
  refine aw_code f7bcc_eq ?_
  refine aw_then ?_
  refine aw_code f7bcca_eq ?_
  refine aw_reg ?_
  have gH2_H_n : H2_.get (H.n) = some ⟨[Value.int .i64 op, .int .i64 rd, .int .i64 ra, .int .i64 rb, .int .u32 im], 24, false⟩ := by rw [uH2_.get _ (by omega)]; exact gH1_H_n
  refine aops_val 12 (.agg #[.int .i64 op, .int .i64 rd, .int .i64 ra, .int .i64 rb, .int .u32 im]) H2_ (by kernel_rfl) (by kernel_rfl) (by kernel_rfl) ((by kernel_rfl : _ = val (aload T13 24 (.pointer (some ⟨H.n, 0, none⟩)) H2_) H2_).trans (val_of ((aload_at gH2_H_n).trans (by kernel_rfl)))) ?_
  refine aops_ask 13 (.bool true) 16 #[.agg #[.int .i64 op, .int .i64 rd, .int .i64 ra, .int .i64 rb, .int .u32 im]] (by kernel_rfl) (by kernel_rfl) (by kernel_rfl) (by kernel_rfl) (show some (Value.bool (rightV op rd ra rb im)) = _ by rw [hr]) ?_
  refine aops_go 1 60 (by kernel_rfl) ?_
  refine aops_end (by kernel_rfl) (then_normal ?_)
  refine aw_code f7bccc_eq ?_
  refine aw_then ?_
  refine aw_code f7bccca_eq ?_
  refine aw_reg ?_
  refine aops_go 1 60 (by kernel_rfl) ?_
  refine aops_end (by kernel_rfl) (then_normal ?_)
  refine aw_code f7bcccc_eq ?_
  refine aw_then ?_
  refine aw_code f7bcccca_eq ?_
  refine aw_then ?_
  refine aw_code f7bccccaa_eq ?_
  refine aw_reg ?_
  refine aops_go 1 60 (by kernel_rfl) ?_
  refine aops_end (by kernel_rfl) (then_normal ?_)
  refine aw_code f7bccccac_eq ?_
  refine aw_cond (t := true) (by kernel_rfl) ?_
  refine aw_code f7bccccaca_eq ?_
  refine aw_drawU (H2_.n) ?_
  refine aopsU_go 1 (by kernel_rfl) ?_
  refine aopsU_look 16 (.int .i64 op) (.pointer (some ⟨H.n, 0, none⟩)) (.tmp 15) H2_ (by kernel_rfl) (by kernel_rfl) (by kernel_rfl) (by kernel_rfl) (by kernel_rfl) (by kernel_rfl) ((by kernel_rfl : _ = aload T13 3 (.pointer (some ⟨H.n, 0, none⟩)) H2_).trans ((aload_at gH2_H_n).trans (by kernel_rfl))) (veq_int _ _) (lowB_ptr (by omega)) ((by kernel_rfl : _ = val (aload T13 3 (.pointer (some ⟨H.n, 0, none⟩)) H2_) H2_).trans (val_to ((aload_at gH2_H_n).trans (by kernel_rfl)) (by kernel_rfl))) ?_
  refine aopsU_ask 17 (.string (nameV op)) 17 #[.int .i64 op] (by kernel_rfl) (by kernel_rfl) (by kernel_rfl) (by kernel_rfl) rfl ?_
  refine aopsU_pt 18 (.string x1_) (by kernel_rfl) (by kernel_rfl) (by kernel_rfl) (by kernel_rfl) (ha_fb (op := .add) (t := 9) (a := .tmp 17) (b := .const (.string ⟨⟨[32]⟩⟩)) (u := .string (nameV op)) (v := .string ⟨⟨[32]⟩⟩) (by kernel_rfl) (by kernel_rfl) (by kernel_rfl) rfl rfl rfl ((sadd_run (by omega)).trans (by rw [← hx1_])) rfl) ?_
  refine aopsU_go 1 (by kernel_rfl) ?_
  refine aopsU_look 20 (.int .i64 rd) (.pointer (some ⟨H.n, 1, none⟩)) (.tmp 19) H2_ (by kernel_rfl) (by kernel_rfl) (by kernel_rfl) (by kernel_rfl) (by kernel_rfl) (by kernel_rfl) ((by kernel_rfl : _ = aload T13 3 (.pointer (some ⟨H.n, 1, none⟩)) H2_).trans ((aload_at gH2_H_n).trans (by kernel_rfl))) (veq_int _ _) (lowB_ptr (by omega)) ((by kernel_rfl : _ = val (aload T13 3 (.pointer (some ⟨H.n, 1, none⟩)) H2_) H2_).trans (val_to ((aload_at gH2_H_n).trans (by kernel_rfl)) (by kernel_rfl))) ?_
  refine aopsU_pt 21 (.int .u32 (IntKind.u32.wrap rd)) (by kernel_rfl) (by kernel_rfl) (by kernel_rfl) (by kernel_rfl) (by kernel_rfl) ?_
  refine aopsU_see 21 (.int .u32 rd) (see_int (x := IntKind.u32.wrap rd) (by kernel_rfl) (wu32 rfl (by omega) (by omega))) ?_
  refine aopsU_ask 22 (.string (dec rd)) 18 #[.int .u32 rd] (by kernel_rfl) (by kernel_rfl) (by kernel_rfl) (by kernel_rfl) (orc18 rd u1) ?_
  refine aopsU_pt 23 (.string x2_) (by kernel_rfl) (by kernel_rfl) (by kernel_rfl) (by kernel_rfl) (ha_fb (op := .add) (t := 9) (a := .tmp 18) (b := .tmp 22) (u := .string x1_) (v := .string (dec rd)) (by kernel_rfl) (by kernel_rfl) (by kernel_rfl) rfl rfl rfl ((sadd_run (by omega)).trans (by rw [← hx2_])) rfl) ?_
  refine aopsU_pt 24 (.string x3_) (by kernel_rfl) (by kernel_rfl) (by kernel_rfl) (by kernel_rfl) (ha_fb (op := .add) (t := 9) (a := .tmp 23) (b := .const (.string ⟨⟨[32]⟩⟩)) (u := .string x2_) (v := .string ⟨⟨[32]⟩⟩) (by kernel_rfl) (by kernel_rfl) (by kernel_rfl) rfl rfl rfl ((sadd_run (by omega)).trans (by rw [← hx3_])) rfl) ?_
  refine aopsU_go 1 (by kernel_rfl) ?_
  refine aopsU_look 26 (.int .i64 ra) (.pointer (some ⟨H.n, 2, none⟩)) (.tmp 25) H2_ (by kernel_rfl) (by kernel_rfl) (by kernel_rfl) (by kernel_rfl) (by kernel_rfl) (by kernel_rfl) ((by kernel_rfl : _ = aload T13 3 (.pointer (some ⟨H.n, 2, none⟩)) H2_).trans ((aload_at gH2_H_n).trans (by kernel_rfl))) (veq_int _ _) (lowB_ptr (by omega)) ((by kernel_rfl : _ = val (aload T13 3 (.pointer (some ⟨H.n, 2, none⟩)) H2_) H2_).trans (val_to ((aload_at gH2_H_n).trans (by kernel_rfl)) (by kernel_rfl))) ?_
  refine aopsU_pt 27 (.int .u32 (IntKind.u32.wrap ra)) (by kernel_rfl) (by kernel_rfl) (by kernel_rfl) (by kernel_rfl) (by kernel_rfl) ?_
  refine aopsU_see 27 (.int .u32 ra) (see_int (x := IntKind.u32.wrap ra) (by kernel_rfl) (wu32 rfl (by omega) (by omega))) ?_
  refine aopsU_ask 28 (.string (dec ra)) 18 #[.int .u32 ra] (by kernel_rfl) (by kernel_rfl) (by kernel_rfl) (by kernel_rfl) (orc18 ra u2) ?_
  refine aopsU_pt 29 (.string x4_) (by kernel_rfl) (by kernel_rfl) (by kernel_rfl) (by kernel_rfl) (ha_fb (op := .add) (t := 9) (a := .tmp 24) (b := .tmp 28) (u := .string x3_) (v := .string (dec ra)) (by kernel_rfl) (by kernel_rfl) (by kernel_rfl) rfl rfl rfl ((sadd_run (by omega)).trans (by rw [← hx4_])) rfl) ?_
  refine aopsU_pt 30 (.string x5_) (by kernel_rfl) (by kernel_rfl) (by kernel_rfl) (by kernel_rfl) (ha_fb (op := .add) (t := 9) (a := .tmp 29) (b := .const (.string ⟨⟨[32]⟩⟩)) (u := .string x4_) (v := .string ⟨⟨[32]⟩⟩) (by kernel_rfl) (by kernel_rfl) (by kernel_rfl) rfl rfl rfl ((sadd_run (by omega)).trans (by rw [← hx5_])) rfl) ?_
  refine aopsU_go 1 (by kernel_rfl) ?_
  refine aopsU_look 32 (.int .i64 rb) (.pointer (some ⟨H.n, 3, none⟩)) (.tmp 31) H2_ (by kernel_rfl) (by kernel_rfl) (by kernel_rfl) (by kernel_rfl) (by kernel_rfl) (by kernel_rfl) ((by kernel_rfl : _ = aload T13 3 (.pointer (some ⟨H.n, 3, none⟩)) H2_).trans ((aload_at gH2_H_n).trans (by kernel_rfl))) (veq_int _ _) (lowB_ptr (by omega)) ((by kernel_rfl : _ = val (aload T13 3 (.pointer (some ⟨H.n, 3, none⟩)) H2_) H2_).trans (val_to ((aload_at gH2_H_n).trans (by kernel_rfl)) (by kernel_rfl))) ?_
  refine aopsU_pt 33 (.int .u32 (IntKind.u32.wrap rb)) (by kernel_rfl) (by kernel_rfl) (by kernel_rfl) (by kernel_rfl) (by kernel_rfl) ?_
  refine aopsU_see 33 (.int .u32 rb) (see_int (x := IntKind.u32.wrap rb) (by kernel_rfl) (wu32 rfl (by omega) (by omega))) ?_
  refine aopsU_ask 34 (.string (dec rb)) 18 #[.int .u32 rb] (by kernel_rfl) (by kernel_rfl) (by kernel_rfl) (by kernel_rfl) (orc18 rb u3) ?_
  refine aopsU_pt 35 (.string x6_) (by kernel_rfl) (by kernel_rfl) (by kernel_rfl) (by kernel_rfl) (ha_fb (op := .add) (t := 9) (a := .tmp 30) (b := .tmp 34) (u := .string x5_) (v := .string (dec rb)) (by kernel_rfl) (by kernel_rfl) (by kernel_rfl) rfl rfl rfl ((sadd_run (by omega)).trans (by rw [← hx6_])) rfl) ?_
  refine aopsU_pt 36 (.string x7_) (by kernel_rfl) (by kernel_rfl) (by kernel_rfl) (by kernel_rfl) (ha_fb (op := .add) (t := 9) (a := .tmp 35) (b := .const (.string ⟨⟨[32]⟩⟩)) (u := .string x6_) (v := .string ⟨⟨[32]⟩⟩) (by kernel_rfl) (by kernel_rfl) (by kernel_rfl) rfl rfl rfl ((sadd_run (by omega)).trans (by rw [← hx7_])) rfl) ?_
  refine aopsU_go 1 (by kernel_rfl) ?_
  refine aopsU_look 38 (.int .u32 im) (.pointer (some ⟨H.n, 4, none⟩)) (.tmp 37) H2_ (by kernel_rfl) (by kernel_rfl) (by kernel_rfl) (by kernel_rfl) (by kernel_rfl) (by kernel_rfl) ((by kernel_rfl : _ = aload T13 22 (.pointer (some ⟨H.n, 4, none⟩)) H2_).trans ((aload_at gH2_H_n).trans (by kernel_rfl))) (veq_int _ _) (lowB_ptr (by omega)) ((by kernel_rfl : _ = val (aload T13 22 (.pointer (some ⟨H.n, 4, none⟩)) H2_) H2_).trans (val_to ((aload_at gH2_H_n).trans (by kernel_rfl)) (by kernel_rfl))) ?_
  refine aopsU_ask 39 (.string (dec im)) 18 #[.int .u32 im] (by kernel_rfl) (by kernel_rfl) (by kernel_rfl) (by kernel_rfl) (orc18 im hi) ?_
  refine aopsU_pt 40 (.string x8_) (by kernel_rfl) (by kernel_rfl) (by kernel_rfl) (by kernel_rfl) (ha_fb (op := .add) (t := 9) (a := .tmp 36) (b := .tmp 39) (u := .string x7_) (v := .string (dec im)) (by kernel_rfl) (by kernel_rfl) (by kernel_rfl) rfl rfl rfl ((sadd_run (by omega)).trans (by rw [← hx8_])) rfl) ?_
  refine aopsU_go 1 (by kernel_rfl) ?_
  refine aopsU_end (by kernel_rfl) (then_normal ?_)
  refine aw_code f7bccccc_eq ?_
  refine aw_then ?_
  refine aw_code f7bccccca_eq ?_
  refine aw_drawU (H2_.n) ?_
  refine aopsU_look 41 (.agg #[.int .i64 op, .int .i64 rd, .int .i64 ra, .int .i64 rb, .int .u32 im]) (.pointer (some ⟨H.n, 0, none⟩)) (.tmp 1) H2_ (by kernel_rfl) (by kernel_rfl) (by kernel_rfl) (by kernel_rfl) (by kernel_rfl) (by kernel_rfl) ((by kernel_rfl : _ = aload T13 24 (.pointer (some ⟨H.n, 0, none⟩)) H2_).trans ((aload_at gH2_H_n).trans (by kernel_rfl))) (by simp [veq, veqs, veq0]) (lowB_ptr (by omega)) ((by kernel_rfl : _ = val (aload T13 24 (.pointer (some ⟨H.n, 0, none⟩)) H2_) H2_).trans (val_to ((aload_at gH2_H_n).trans (by kernel_rfl)) (by kernel_rfl))) ?_
  refine aopsU_ask 42 (.bool true) 19 #[.agg #[.int .i64 op, .int .i64 rd, .int .i64 ra, .int .i64 rb, .int .u32 im]] (by kernel_rfl) (by kernel_rfl) (by kernel_rfl) (by kernel_rfl) (show some (Value.bool (rightV op rd ra rb im)) = _ by rw [hr]) ?_
  refine aopsU_go 3 (by kernel_rfl) ?_
  refine aopsU_look 46 (.agg #[.int .i64 op, .int .i64 rd, .int .i64 ra, .int .i64 rb, .int .u32 im]) (.pointer (some ⟨H.n, 0, none⟩)) (.tmp 1) H2_ (by kernel_rfl) (by kernel_rfl) (by kernel_rfl) (by kernel_rfl) (by kernel_rfl) (by kernel_rfl) ((by kernel_rfl : _ = aload T13 24 (.pointer (some ⟨H.n, 0, none⟩)) H2_).trans ((aload_at gH2_H_n).trans (by kernel_rfl))) (by simp [veq, veqs, veq0]) (lowB_ptr (by omega)) ((by kernel_rfl : _ = val (aload T13 24 (.pointer (some ⟨H.n, 0, none⟩)) H2_) H2_).trans (val_to ((aload_at gH2_H_n).trans (by kernel_rfl)) (by kernel_rfl))) ?_
  refine aopsU_ask 47 (.string (textV op rd ra rb im)) 13 #[.agg #[.int .i64 op, .int .i64 rd, .int .i64 ra, .int .i64 rb, .int .u32 im]] (by kernel_rfl) (by kernel_rfl) (by kernel_rfl) (by kernel_rfl) (orc13 op rd ra rb im hi) ?_
  refine aopsU_go 1 (by kernel_rfl) ?_
  refine aopsU_pt 49 (.bool (decide ((textV op rd ra rb im) = x8_))) (by kernel_rfl) (by kernel_rfl) (by kernel_rfl) (by kernel_rfl) (ha_fb (op := .eql) (t := 9) (a := .tmp 47) (b := .tmp 48) (u := .string (textV op rd ra rb im)) (v := .string x8_) (by kernel_rfl) (by kernel_rfl) (by kernel_rfl) rfl rfl rfl (seq_run rfl) rfl) ?_
  refine aopsU_go 2 (by kernel_rfl) ?_
  refine aopsU_see 51 (.bool true) (see_bool (by kernel_rfl) ((by rw [text_yes hr, hx8_, hx7_, hx6_, hx5_, hx4_, hx3_, hx2_, hx1_]; exact decide_eq_true rfl) : ((decide ((textV op rd ra rb im) = x8_))) = true)) ?_
  refine aopsU_go 9 (by kernel_rfl) ?_
  refine aopsU_look 61 (.string (bstr (enc8 op rd ra rb im))) (.slice (some ⟨B, 0, none⟩) 8 (unk + 1)) (.tmp 60) H2_ (by kernel_rfl) (by kernel_rfl) (by kernel_rfl) (by kernel_rfl) (by kernel_rfl) (by kernel_rfl) ((by kernel_rfl : _ = aconvert T13 28 9 (.slice (some ⟨B, 0, none⟩) 8 (unk + 1)) H2_).trans (aconv_at (T := T13) (s := 28) (d := 9) (e := 5) (off := 0) (n := 8) (cap := unk + 1) (by kernel_rfl) (by kernel_rfl) (by kernel_rfl) (l := (enc8 op rd ra rb im)) gB rfl rfl (bytes_enc op rd ra rb im))) (by simp [veq, veq0]) (lowB_slice (by omega)) (ha_cv (H := H2_) (s := 28) (d := 9) (x := .tmp 60) (u := .slice (some ⟨B, 0, none⟩) 8 (unk + 1)) (by kernel_rfl) (by kernel_rfl) (by kernel_rfl) (aconv_at (T := T13) (s := 28) (d := 9) (e := 5) (off := 0) (n := 8) (cap := unk + 1) (by kernel_rfl) (by kernel_rfl) (by kernel_rfl) (l := (enc8 op rd ra rb im)) gB rfl rfl (bytes_enc op rd ra rb im)) (by kernel_rfl)) ?_
  refine aopsU_look 62 (.agg #[.int .i64 op, .int .i64 rd, .int .i64 ra, .int .i64 rb, .int .u32 im]) (.pointer (some ⟨H.n, 0, none⟩)) (.tmp 1) H2_ (by kernel_rfl) (by kernel_rfl) (by kernel_rfl) (by kernel_rfl) (by kernel_rfl) (by kernel_rfl) ((by kernel_rfl : _ = aload T13 24 (.pointer (some ⟨H.n, 0, none⟩)) H2_).trans ((aload_at gH2_H_n).trans (by kernel_rfl))) (by simp [veq, veqs, veq0]) (lowB_ptr (by omega)) ((by kernel_rfl : _ = val (aload T13 24 (.pointer (some ⟨H.n, 0, none⟩)) H2_) H2_).trans (val_to ((aload_at gH2_H_n).trans (by kernel_rfl)) (by kernel_rfl))) ?_
  refine aopsU_call 63 9 #[.agg #[.int .i64 op, .int .i64 rd, .int .i64 ra, .int .i64 rb, .int .u32 im]] H2_ (by kernel_rfl) (by kernel_rfl) (fun v => (by kernel_rfl)) (by kernel_rfl) (by kernel_rfl) renc (fun v H2 h2 => by obtain ⟨_, _, _, _, _, u⟩ := h2; exact u.mono (by omega)) ?_
  rintro _ H3_ ⟨B2, rfl, gB2, hBB, hBB2, uH3_⟩
  have nH3_ := uH3_.n
  refine aopsU_rd 64 (.string (bstr (enc8 op rd ra rb im))) (by kernel_rfl) (by kernel_rfl) (by kernel_rfl) (by kernel_rfl) (ha_cv (H := H3_) (s := 28) (d := 9) (x := .tmp 63) (u := .slice (some ⟨B2, 0, none⟩) 8 8) (by kernel_rfl) (by kernel_rfl) (by kernel_rfl) (aconv_at (T := T13) (s := 28) (d := 9) (e := 5) (off := 0) (n := 8) (cap := 8) (by kernel_rfl) (by kernel_rfl) (by kernel_rfl) (l := (enc8 op rd ra rb im)) gB2 rfl rfl (bytes_enc op rd ra rb im)) (by kernel_rfl)) ?_
  refine aopsU_pt 65 (.bool (decide ((bstr (enc8 op rd ra rb im)) = (bstr (enc8 op rd ra rb im))))) (by kernel_rfl) (by kernel_rfl) (by kernel_rfl) (by kernel_rfl) (ha_fb (op := .eql) (t := 9) (a := .tmp 61) (b := .tmp 64) (u := .string (bstr (enc8 op rd ra rb im))) (v := .string (bstr (enc8 op rd ra rb im))) (by kernel_rfl) (by kernel_rfl) (by kernel_rfl) rfl rfl rfl (seq_run rfl) rfl) ?_
  refine aopsU_go 2 (by kernel_rfl) ?_
  refine aopsU_see 67 (.bool true) (see_bool (by kernel_rfl) ((by simp) : ((decide ((bstr (enc8 op rd ra rb im)) = (bstr (enc8 op rd ra rb im))))) = true)) ?_
  refine aopsU_go 14 (by kernel_rfl) ?_
  refine aopsU_end (by kernel_rfl) (then_normal ?_)
  refine aw_ret (bodyQ_ret_to (.bool true) H3_ (by kernel_rfl) (by kernel_rfl) ?_)
  exact ⟨rfl, ⟨by omega, fun b hb => by rw [uH3_.get _ (by omega), uH2_.get _ (by omega), hH1_, Heap.get_push, if_neg (by omega)]⟩⟩
set_option maxHeartbeats 1000000 in
theorem same_no {op rd ra rb im : Int} {H : Heap} (hi : u32B im = true) (hr : rightV op rd ra rb im = false) : ACall Tryd.prog T13 7 #[.agg #[.int .i64 op, .int .i64 rd, .int .i64 ra, .int .i64 rb, .int .u32 im]] H fun r H' => r = .bool true ∧ Up H.n H H' := by
  refine acall_of' 81 (initTm 0 #[.agg #[.int .i64 op, .int .i64 rd, .int .i64 ra, .int .i64 rb, .int .u32 im]]) rfl f7_fn f7_body rfl rfl ?_
  refine aw_code f7b_eq ?_
  refine aw_then ?_
  refine aw_code f7ba_eq ?_
  refine aw_reg ?_
  obtain ⟨H1_, hH1_⟩ : ∃ x : Heap, x = H.push ⟨[Value.int .i64 op, .int .i64 rd, .int .i64 ra, .int .i64 rb, .int .u32 im], 24, false⟩ := ⟨_, rfl⟩
  have nH1_ : H1_.n = H.n + 1 := by rw [hH1_]; rfl
  refine aops_val 1 (.pointer (some ⟨H.n, 0, none⟩)) H1_ (by kernel_rfl) (by kernel_rfl) (by kernel_rfl) ((by kernel_rfl : _ = some (Res.val (.pointer (some ⟨H.n, 0, none⟩)), H.push ⟨[Value.int .i64 op, .int .i64 rd, .int .i64 ra, .int .i64 rb, .int .u32 im], 24, false⟩)).trans (by rw [← hH1_])) ?_
  refine aops_go 1 60 (by kernel_rfl) ?_
  refine aops_end (by kernel_rfl) (then_normal ?_)
  refine aw_code f7bc_eq ?_
  refine aw_then ?_
  refine aw_code f7bca_eq ?_
  refine aw_reg ?_
  have gH1_H_n : H1_.get (H.n) = some ⟨[Value.int .i64 op, .int .i64 rd, .int .i64 ra, .int .i64 rb, .int .u32 im], 24, false⟩ := by rw [hH1_]; exact (Heap.get_push _ _ _).trans (if_pos rfl)
  refine aops_val 8 (.agg #[.int .i64 op, .int .i64 rd, .int .i64 ra, .int .i64 rb, .int .u32 im]) H1_ (by kernel_rfl) (by kernel_rfl) (by kernel_rfl) ((by kernel_rfl : _ = val (aload T13 24 (.pointer (some ⟨H.n, 0, none⟩)) H1_) H1_).trans (val_of ((aload_at gH1_H_n).trans (by kernel_rfl)))) ?_
  refine aops_call_to 9 12 #[.agg #[.int .i64 op, .int .i64 rd, .int .i64 ra, .int .i64 rb, .int .u32 im]] H1_ (by kernel_rfl) (by kernel_rfl) (fun v => (by kernel_rfl)) (by kernel_rfl) (by kernel_rfl) (enc_no hr) ?_
  rintro _ H2_ ⟨rfl, uH2_⟩
  have nH2_ := uH2_.n
  refine aops_go 5 60 (by kernel_rfl) ?_
  refine aops_end (by kernel_rfl) (then_normal ?_)
  refine aw_code f7bcc_eq ?_
  refine aw_then ?_
  refine aw_code f7bcca_eq ?_
  refine aw_reg ?_
  have gH2_H_n : H2_.get (H.n) = some ⟨[Value.int .i64 op, .int .i64 rd, .int .i64 ra, .int .i64 rb, .int .u32 im], 24, false⟩ := by rw [uH2_.get _ (by omega)]; exact gH1_H_n
  refine aops_val 12 (.agg #[.int .i64 op, .int .i64 rd, .int .i64 ra, .int .i64 rb, .int .u32 im]) H2_ (by kernel_rfl) (by kernel_rfl) (by kernel_rfl) ((by kernel_rfl : _ = val (aload T13 24 (.pointer (some ⟨H.n, 0, none⟩)) H2_) H2_).trans (val_of ((aload_at gH2_H_n).trans (by kernel_rfl)))) ?_
  refine aops_ask 13 (.bool false) 16 #[.agg #[.int .i64 op, .int .i64 rd, .int .i64 ra, .int .i64 rb, .int .u32 im]] (by kernel_rfl) (by kernel_rfl) (by kernel_rfl) (by kernel_rfl) (show some (Value.bool (rightV op rd ra rb im)) = _ by rw [hr]) ?_
  refine aops_go 1 60 (by kernel_rfl) ?_
  refine aops_end (by kernel_rfl) (then_normal ?_)
  refine aw_code f7bccc_eq ?_
  refine aw_then ?_
  refine aw_code f7bccca_eq ?_
  refine aw_reg ?_
  refine aops_go 1 60 (by kernel_rfl) ?_
  refine aops_end (by kernel_rfl) (then_normal ?_)
  refine aw_code f7bcccc_eq ?_
  refine aw_then ?_
  refine aw_code f7bcccca_eq ?_
  refine aw_then ?_
  refine aw_code f7bccccaa_eq ?_
  refine aw_reg ?_
  refine aops_go 1 60 (by kernel_rfl) ?_
  refine aops_end (by kernel_rfl) (then_normal ?_)
  refine aw_code f7bccccac_eq ?_
  refine aw_cond (t := false) (by kernel_rfl) ?_
  refine aw_skip (then_normal ?_)
  refine aw_code f7bccccc_eq ?_
  refine aw_then ?_
  refine aw_code f7bccccca_eq ?_
  refine aw_drawU (H2_.n) ?_
  refine aopsU_look 41 (.agg #[.int .i64 op, .int .i64 rd, .int .i64 ra, .int .i64 rb, .int .u32 im]) (.pointer (some ⟨H.n, 0, none⟩)) (.tmp 1) H2_ (by kernel_rfl) (by kernel_rfl) (by kernel_rfl) (by kernel_rfl) (by kernel_rfl) (by kernel_rfl) ((by kernel_rfl : _ = aload T13 24 (.pointer (some ⟨H.n, 0, none⟩)) H2_).trans ((aload_at gH2_H_n).trans (by kernel_rfl))) (by simp [veq, veqs, veq0]) (lowB_ptr (by omega)) ((by kernel_rfl : _ = val (aload T13 24 (.pointer (some ⟨H.n, 0, none⟩)) H2_) H2_).trans (val_to ((aload_at gH2_H_n).trans (by kernel_rfl)) (by kernel_rfl))) ?_
  refine aopsU_ask 42 (.bool false) 19 #[.agg #[.int .i64 op, .int .i64 rd, .int .i64 ra, .int .i64 rb, .int .u32 im]] (by kernel_rfl) (by kernel_rfl) (by kernel_rfl) (by kernel_rfl) (show some (Value.bool (rightV op rd ra rb im)) = _ by rw [hr]) ?_
  refine aopsU_go 3 (by kernel_rfl) ?_
  refine aopsU_look 46 (.agg #[.int .i64 op, .int .i64 rd, .int .i64 ra, .int .i64 rb, .int .u32 im]) (.pointer (some ⟨H.n, 0, none⟩)) (.tmp 1) H2_ (by kernel_rfl) (by kernel_rfl) (by kernel_rfl) (by kernel_rfl) (by kernel_rfl) (by kernel_rfl) ((by kernel_rfl : _ = aload T13 24 (.pointer (some ⟨H.n, 0, none⟩)) H2_).trans ((aload_at gH2_H_n).trans (by kernel_rfl))) (by simp [veq, veqs, veq0]) (lowB_ptr (by omega)) ((by kernel_rfl : _ = val (aload T13 24 (.pointer (some ⟨H.n, 0, none⟩)) H2_) H2_).trans (val_to ((aload_at gH2_H_n).trans (by kernel_rfl)) (by kernel_rfl))) ?_
  refine aopsU_ask 47 (.string (textV op rd ra rb im)) 13 #[.agg #[.int .i64 op, .int .i64 rd, .int .i64 ra, .int .i64 rb, .int .u32 im]] (by kernel_rfl) (by kernel_rfl) (by kernel_rfl) (by kernel_rfl) (orc13 op rd ra rb im hi) ?_
  refine aopsU_go 1 (by kernel_rfl) ?_
  refine aopsU_pt 49 (.bool (decide ((textV op rd ra rb im) = ⟨⟨[63]⟩⟩))) (by kernel_rfl) (by kernel_rfl) (by kernel_rfl) (by kernel_rfl) (ha_fb (op := .eql) (t := 9) (a := .tmp 47) (b := .tmp 48) (u := .string (textV op rd ra rb im)) (v := .string ⟨⟨[63]⟩⟩) (by kernel_rfl) (by kernel_rfl) (by kernel_rfl) rfl rfl rfl (seq_run rfl) rfl) ?_
  refine aopsU_go 2 (by kernel_rfl) ?_
  refine aopsU_see 51 (.bool true) (see_bool (by kernel_rfl) ((by rw [text_no hr]; simp) : ((decide ((textV op rd ra rb im) = ⟨⟨[63]⟩⟩))) = true)) ?_
  refine aopsU_go 30 (by kernel_rfl) ?_
  refine aopsU_end (by kernel_rfl) (then_normal ?_)
  refine aw_ret (bodyQ_ret_to (.bool true) H2_ (by kernel_rfl) (by kernel_rfl) ?_)
  exact ⟨rfl, ⟨by omega, fun b hb => by rw [uH2_.get _ (by omega), hH1_, Heap.get_push, if_neg (by omega)]⟩⟩
theorem same_any (op rd ra rb im : Int) (hi : u32B im = true) (H : Heap) : ACall Tryd.prog T13 7 #[.agg #[.int .i64 op, .int .i64 rd, .int .i64 ra, .int .i64 rb, .int .u32 im]] H fun r H' => r = .bool true ∧ Up H.n H H' := by
  cases hr : rightV op rd ra rb im
  · exact same_no hi hr
  · exact same_ok hi hr
def sp7 : List Value → Option Value
  | [.agg a] => match a.toList with
    | [.int .i64 op, .int .i64 rd, .int .i64 ra, .int .i64 rb, .int .u32 im] => bif u32B im then some (.bool true) else none
    | _ => none
  | _ => none
noncomputable def T14 : Tab := { T13 with orc := addOrc T13.orc 7 sp7 }
theorem progOk14 [Bs] [Tb] : ProgOk Tryd.prog T14 := progOk13.know 7 sp7 fun args v h => by
  unfold sp7 at h
  split at h
  · rename_i a
    split at h
    · rename_i op rd ra rb im e
      cases hb : (u32B im)
      · rw [hb] at h; cases h
      · rw [hb] at h; cases h
        have : a = #[.int .i64 op, .int .i64 rd, .int .i64 ra, .int .i64 rb, .int .u32 im] := Array.ext' e
        subst this
        exact ⟨rfl, rfl, (same_any op rd ra rb im hb _).mono fun r H' h => h.1⟩
    · cases h
  · cases h
theorem orc7 (op rd ra rb im : Int) (h : u32B im = true) : sp7 [.agg #[.int .i64 op, .int .i64 rd, .int .i64 ra, .int .i64 rb, .int .u32 im]] = some (.bool true) := by
  simp only [sp7, h, cond_true]
end Hc
end Go.Proofs.YtndjckfnggnddaaDoor
