/- Chapter 2: same. -/
import Derived.Test.YtpfmmckbfejfnaaDoorGj
import Derived.Test.YtpfmmckbfejfnaaDoorGk
import Derived.Test.YtpfmmckbfejfnaaDoorEvSf
namespace Go.Proofs.YtpfmmckbfejfnaaDoor
open Go Go.Ev Go.RowKit
set_option linter.unusedVariables false
set_option linter.unusedSimpArgs false
set_option maxRecDepth 100000
namespace Gc
theorem bytes_enc (op N : Int) : bytesOf (encL op N) = some (bstr (encL op N)) := by
  unfold bstr encL
  cases sizeV op == 1 <;> cases sizeV op == 2 <;> rfl
theorem text_no {op N : Int} (h : rightV op N = false) : textV op N = ⟨⟨[63]⟩⟩ := by unfold textV; rw [h]; rfl
theorem text_one {op N : Int} (h : rightV op N = true) (h2 : decide (sizeV op > 1) = false) : textV op N = nameV op := by unfold textV; rw [h, h2]; rfl
theorem text_two {op N : Int} (h : rightV op N = true) (h2 : decide (sizeV op > 1) = true) : textV op N = nameV op ++ ⟨⟨[32]⟩⟩ ++ dec N := by unfold textV; rw [h, h2]; rfl
noncomputable def f25b : Code := Tryd.f25.body.getD .skip
noncomputable def f25ba : Code := cl f25b
noncomputable def f25bao : Array Oper := opsOf f25ba
noncomputable def f25bc : Code := cr f25b
noncomputable def f25bca : Code := cl f25bc
noncomputable def f25bcao : Array Oper := opsOf f25bca
theorem f25ba_eq : f25ba = .region 0 f25bao false := by kernel_rfl
theorem f25bca_eq : f25bca = .region 1 f25bcao false := by kernel_rfl
theorem f25bc_eq : f25bc = .seq f25bca .ret := by kernel_rfl
theorem f25b_eq : f25b = .seq f25ba f25bc := by kernel_rfl
theorem f25_body : Tryd.f25.body = some f25b := by kernel_rfl
theorem f25_fn : T20.fn 25 = some Tryd.f25 := by kernel_rfl
theorem enc_ok {op N : Int} {H : Heap} (hr : rightV op N = true) : ACall Tryd.prog T20 25 #[.agg #[.int .i64 op, .int .u32 N]] H fun r H' => ∃ bv, r = .tuple #[bv, .int .i64 0] ∧ Gr H' H.n 5 1 bv (encL op N).length (encL op N) ∧ Up H.n H H' := by
  refine acall_of' 9 (initTm 0 #[.agg #[.int .i64 op, .int .u32 N]]) rfl f25_fn f25_body rfl rfl ?_
  refine aw_code f25b_eq ?_
  refine aw_then ?_
  refine aw_code f25ba_eq ?_
  refine aw_reg ?_
  obtain ⟨H1_, hH1_⟩ : ∃ x : Heap, x = H.push ⟨[Value.int .i64 op, .int .u32 N], 26, false⟩ := ⟨_, rfl⟩
  have nH1_ : H1_.n = H.n + 1 := by rw [hH1_]; rfl
  refine aops_val 1 (.pointer (some ⟨H.n, 0, none⟩)) H1_ (by kernel_rfl) (by kernel_rfl) (by kernel_rfl) ((by kernel_rfl : _ = some (Res.val (.pointer (some ⟨H.n, 0, none⟩)), H.push ⟨[Value.int .i64 op, .int .u32 N], 26, false⟩)).trans (by rw [← hH1_])) ?_
  refine aops_go 2 60 (by kernel_rfl) ?_
  refine aops_end (by kernel_rfl) (then_normal ?_)
  refine aw_code f25bc_eq ?_
  refine aw_then ?_
  refine aw_code f25bca_eq ?_
  refine aw_reg ?_
  have gH1_H_n : H1_.get (H.n) = some ⟨[Value.int .i64 op, .int .u32 N], 26, false⟩ := by rw [hH1_]; exact (Heap.get_push _ _ _).trans (if_pos rfl)
  refine aops_val 4 (.agg #[.int .i64 op, .int .u32 N]) H1_ (by kernel_rfl) (by kernel_rfl) (by kernel_rfl) ((by kernel_rfl : _ = val (aload T20 26 (.pointer (some ⟨H.n, 0, none⟩)) H1_) H1_).trans (val_of ((aload_at gH1_H_n).trans (by kernel_rfl)))) ?_
  obtain ⟨H2_, hH2_⟩ : ∃ x : Heap, x = H1_.push ⟨[Value.int .i64 op, .int .u32 N], 26, false⟩ := ⟨_, rfl⟩
  have nH2_ : H2_.n = H1_.n + 1 := by rw [hH2_]; rfl
  refine aops_val 5 (.slice (some ⟨H1_.n, 0, none⟩) 1 1) H2_ (by kernel_rfl) (by kernel_rfl) (by kernel_rfl) ((by kernel_rfl : _ = some (Res.val (.slice (some ⟨H1_.n, 0, none⟩) 1 1), H1_.push ⟨[Value.int .i64 op, .int .u32 N], 26, false⟩)).trans (by rw [← hH2_])) ?_
  have gH2_H1__n : H2_.get (H1_.n) = some ⟨[Value.int .i64 op, .int .u32 N], 26, false⟩ := by rw [hH2_]; exact (Heap.get_push _ _ _).trans (if_pos rfl)
  refine aops_call_to 6 21 #[.slice (some ⟨H1_.n, 0, none⟩) 1 1] H2_ (by kernel_rfl) (by kernel_rfl) (fun v => (by kernel_rfl)) (by kernel_rfl) (by kernel_rfl) (join_own (l := [(op, N)]) (off := 0) gH2_H1__n (by omega) (fun k hk => by match k, hk with | 0, _ => rfl) (by simp)) ?_
  rintro r2 H3_ ⟨hj1, hj2, uH3_⟩
  have nH3_ := uH3_.n
  have hall : allR [(op, N)] = rightV op N := by simp [allR]
  obtain ⟨bv, rfl, hgr⟩ := hj1 (by rw [hall]; exact hr)
  refine aops_go 4 60 (by kernel_rfl) ?_
  refine aops_end (by kernel_rfl) (then_normal ?_)
  refine aw_ret (bodyQ_ret_to (.tuple #[bv, .int .i64 0]) H3_ (by kernel_rfl) (by kernel_rfl) ?_)
  exact ⟨bv, rfl, by simpa [joinL] using hgr.low (lo' := H.n) (by omega), (Up.trans ((show Up H.n H H2_ from hH2_ ▸ Up.push (by omega) ((show Up H.n H H1_ from hH1_ ▸ Up.push (by omega) (Up.refl _) _)) _)) (uH3_.mono (by omega)))⟩
theorem enc_no {op N : Int} {H : Heap} (hr : rightV op N = false) : ACall Tryd.prog T20 25 #[.agg #[.int .i64 op, .int .u32 N]] H fun r H' => r = .tuple #[.slice none 0 0, .int .i64 12] ∧ Up H.n H H' := by
  refine acall_of' 9 (initTm 0 #[.agg #[.int .i64 op, .int .u32 N]]) rfl f25_fn f25_body rfl rfl ?_
  refine aw_code f25b_eq ?_
  refine aw_then ?_
  refine aw_code f25ba_eq ?_
  refine aw_reg ?_
  obtain ⟨H1_, hH1_⟩ : ∃ x : Heap, x = H.push ⟨[Value.int .i64 op, .int .u32 N], 26, false⟩ := ⟨_, rfl⟩
  have nH1_ : H1_.n = H.n + 1 := by rw [hH1_]; rfl
  refine aops_val 1 (.pointer (some ⟨H.n, 0, none⟩)) H1_ (by kernel_rfl) (by kernel_rfl) (by kernel_rfl) ((by kernel_rfl : _ = some (Res.val (.pointer (some ⟨H.n, 0, none⟩)), H.push ⟨[Value.int .i64 op, .int .u32 N], 26, false⟩)).trans (by rw [← hH1_])) ?_
  refine aops_go 2 60 (by kernel_rfl) ?_
  refine aops_end (by kernel_rfl) (then_normal ?_)
  refine aw_code f25bc_eq ?_
  refine aw_then ?_
  refine aw_code f25bca_eq ?_
  refine aw_reg ?_
  have gH1_H_n : H1_.get (H.n) = some ⟨[Value.int .i64 op, .int .u32 N], 26, false⟩ := by rw [hH1_]; exact (Heap.get_push _ _ _).trans (if_pos rfl)
  refine aops_val 4 (.agg #[.int .i64 op, .int .u32 N]) H1_ (by kernel_rfl) (by kernel_rfl) (by kernel_rfl) ((by kernel_rfl : _ = val (aload T20 26 (.pointer (some ⟨H.n, 0, none⟩)) H1_) H1_).trans (val_of ((aload_at gH1_H_n).trans (by kernel_rfl)))) ?_
  obtain ⟨H2_, hH2_⟩ : ∃ x : Heap, x = H1_.push ⟨[Value.int .i64 op, .int .u32 N], 26, false⟩ := ⟨_, rfl⟩
  have nH2_ : H2_.n = H1_.n + 1 := by rw [hH2_]; rfl
  refine aops_val 5 (.slice (some ⟨H1_.n, 0, none⟩) 1 1) H2_ (by kernel_rfl) (by kernel_rfl) (by kernel_rfl) ((by kernel_rfl : _ = some (Res.val (.slice (some ⟨H1_.n, 0, none⟩) 1 1), H1_.push ⟨[Value.int .i64 op, .int .u32 N], 26, false⟩)).trans (by rw [← hH2_])) ?_
  have gH2_H1__n : H2_.get (H1_.n) = some ⟨[Value.int .i64 op, .int .u32 N], 26, false⟩ := by rw [hH2_]; exact (Heap.get_push _ _ _).trans (if_pos rfl)
  refine aops_call_to 6 21 #[.slice (some ⟨H1_.n, 0, none⟩) 1 1] H2_ (by kernel_rfl) (by kernel_rfl) (fun v => (by kernel_rfl)) (by kernel_rfl) (by kernel_rfl) (join_own (l := [(op, N)]) (off := 0) gH2_H1__n (by omega) (fun k hk => by match k, hk with | 0, _ => rfl) (by simp)) ?_
  rintro r2 H3_ ⟨hj1, hj2, uH3_⟩
  have nH3_ := uH3_.n
  have hall : allR [(op, N)] = rightV op N := by simp [allR]
  obtain rfl := hj2 (by rw [hall]; exact hr)
  refine aops_go 4 60 (by kernel_rfl) ?_
  refine aops_end (by kernel_rfl) (then_normal ?_)
  refine aw_ret (bodyQ_ret_to (.tuple #[.slice none 0 0, .int .i64 12]) H3_ (by kernel_rfl) (by kernel_rfl) ?_)
  exact ⟨rfl, (Up.trans ((show Up H.n H H2_ from hH2_ ▸ Up.push (by omega) ((show Up H.n H H1_ from hH1_ ▸ Up.push (by omega) (Up.refl _) _)) _)) (uH3_.mono (by omega)))⟩
noncomputable def f31b : Code := Tryd.f31.body.getD .skip
noncomputable def f31ba : Code := cl f31b
noncomputable def f31bao : Array Oper := opsOf f31ba
noncomputable def f31bc : Code := cr f31b
noncomputable def f31bca : Code := cl f31bc
noncomputable def f31bcao : Array Oper := opsOf f31bca
noncomputable def f31bcc : Code := cr f31bc
noncomputable def f31bcca : Code := cl f31bcc
noncomputable def f31bccaa : Code := cl f31bcca
noncomputable def f31bccaao : Array Oper := opsOf f31bccaa
noncomputable def f31bccac : Code := cr f31bcca
noncomputable def f31bccaca : Code := cl f31bccac
noncomputable def f31bccacaa : Code := cl f31bccaca
noncomputable def f31bccacaaa : Code := cl f31bccacaa
noncomputable def f31bccacaaaa : Code := cl f31bccacaaa
noncomputable def f31bccacaaaao : Array Oper := opsOf f31bccacaaaa
noncomputable def f31bccacaaac : Code := cr f31bccacaaa
noncomputable def f31bccacaac : Code := cr f31bccacaa
noncomputable def f31bccacaaca : Code := cl f31bccacaac
noncomputable def f31bccacaacaa : Code := cl f31bccacaaca
noncomputable def f31bccacaacaao : Array Oper := opsOf f31bccacaacaa
noncomputable def f31bccacaacc : Code := cr f31bccacaac
noncomputable def f31bccacaacco : Array Oper := opsOf f31bccacaacc
noncomputable def f31bccc : Code := cr f31bcc
noncomputable def f31bccca : Code := cl f31bccc
noncomputable def f31bcccao : Array Oper := opsOf f31bccca
theorem f31ba_eq : f31ba = .region 0 f31bao false := by kernel_rfl
theorem f31bca_eq : f31bca = .region 1 f31bcao false := by kernel_rfl
theorem f31bccaa_eq : f31bccaa = .region 2 f31bccaao false := by kernel_rfl
theorem f31bccacaaaa_eq : f31bccacaaaa = .region 3 f31bccacaaaao false := by kernel_rfl
theorem f31bccacaaac_eq : f31bccacaaac = .cond (cop f31bccacaaac) .skip (.exit 0) := by kernel_rfl
theorem f31bccacaaa_eq : f31bccacaaa = .seq f31bccacaaaa f31bccacaaac := by kernel_rfl
theorem f31bccacaacaa_eq : f31bccacaacaa = .region 5 f31bccacaacaao false := by kernel_rfl
theorem f31bccacaaca_eq : f31bccacaaca = .block 1 f31bccacaacaa := by kernel_rfl
theorem f31bccacaacc_eq : f31bccacaacc = .region 4 f31bccacaacco false := by kernel_rfl
theorem f31bccacaac_eq : f31bccacaac = .seq f31bccacaaca f31bccacaacc := by kernel_rfl
theorem f31bccacaa_eq : f31bccacaa = .seq f31bccacaaa f31bccacaac := by kernel_rfl
theorem f31bccaca_eq : f31bccaca = .loop f31bccacaa := by kernel_rfl
theorem f31bccac_eq : f31bccac = .block 0 f31bccaca := by kernel_rfl
theorem f31bcca_eq : f31bcca = .seq f31bccaa f31bccac := by kernel_rfl
theorem f31bccca_eq : f31bccca = .region 6 f31bcccao false := by kernel_rfl
theorem f31bccc_eq : f31bccc = .seq f31bccca .ret := by kernel_rfl
theorem f31bcc_eq : f31bcc = .seq f31bcca f31bccc := by kernel_rfl
theorem f31bc_eq : f31bc = .seq f31bca f31bcc := by kernel_rfl
theorem f31b_eq : f31b = .seq f31ba f31bc := by kernel_rfl
theorem f31_body : Tryd.f31.body = some f31b := by kernel_rfl
theorem f31_fn : T20.fn 31 = some Tryd.f31 := by kernel_rfl
theorem renc_1 {op N : Int} {H : Heap} (hz : sizeV op = 1) : ACall Tryd.prog T20 31 #[.agg #[.int .i64 op, .int .u32 N]] H fun r H' => ∃ B cap, r = .slice (some ⟨B, 0, none⟩) 1 cap ∧ H'.get B = some ⟨[by0 op], 5, false⟩ ∧ B < H'.n ∧ Up H.n H H' := by
  refine acall_of' 28 (initTm 0 #[.agg #[.int .i64 op, .int .u32 N]]) rfl f31_fn f31_body rfl rfl ?_
  refine aw_code f31b_eq ?_
  refine aw_then ?_
  refine aw_code f31ba_eq ?_
  refine aw_reg ?_
  obtain ⟨H1_, hH1_⟩ : ∃ x : Heap, x = H.push ⟨[Value.int .i64 op, .int .u32 N], 26, false⟩ := ⟨_, rfl⟩
  have nH1_ : H1_.n = H.n + 1 := by rw [hH1_]; rfl
  refine aops_val 1 (.pointer (some ⟨H.n, 0, none⟩)) H1_ (by kernel_rfl) (by kernel_rfl) (by kernel_rfl) ((by kernel_rfl : _ = some (Res.val (.pointer (some ⟨H.n, 0, none⟩)), H.push ⟨[Value.int .i64 op, .int .u32 N], 26, false⟩)).trans (by rw [← hH1_])) ?_
  refine aops_go 1 60 (by kernel_rfl) ?_
  refine aops_end (by kernel_rfl) (then_normal ?_)
  refine aw_code f31bc_eq ?_
  refine aw_then ?_
  refine aw_code f31bca_eq ?_
  refine aw_reg ?_
  refine aops_go 1 60 (by kernel_rfl) ?_
  have gH1_H_n : H1_.get (H.n) = some ⟨[Value.int .i64 op, .int .u32 N], 26, false⟩ := by rw [hH1_]; exact (Heap.get_push _ _ _).trans (if_pos rfl)
  refine aops_val 6 (.int .i64 op) H1_ (by kernel_rfl) (by kernel_rfl) (by kernel_rfl) ((by kernel_rfl : _ = val (aload T20 3 (.pointer (some ⟨H.n, 0, none⟩)) H1_) H1_).trans (val_of ((aload_at gH1_H_n).trans (by kernel_rfl)))) ?_
  refine aops_go 1 60 (by kernel_rfl) ?_
  obtain ⟨H2_, hH2_⟩ : ∃ x : Heap, x = H1_.push ⟨[(by0 op)], 5, false⟩ := ⟨_, rfl⟩
  have nH2_ : H2_.n = H1_.n + 1 := by rw [hH2_]; rfl
  refine aops_val 8 (.slice (some ⟨H1_.n, 0, none⟩) 1 1) H2_ (by kernel_rfl) (by kernel_rfl) (by kernel_rfl) ((by kernel_rfl : _ = some (Res.val (.slice (some ⟨H1_.n, 0, none⟩) 1 1), H1_.push ⟨[(by0 op)], 5, false⟩)).trans (by rw [← hH2_])) ?_
  refine aops_go 1 60 (by kernel_rfl) ?_
  refine aops_end (by kernel_rfl) (then_normal ?_)
  refine aw_code f31bcc_eq ?_
  refine aw_then ?_
  refine aw_code f31bcca_eq ?_
  refine aw_then ?_
  refine aw_code f31bccaa_eq ?_
  refine aw_reg ?_
  refine aops_go 1 60 (by kernel_rfl) ?_
  refine aops_end (by kernel_rfl) (then_normal ?_)
  refine aw_code f31bccac_eq ?_
  refine aw_block ?_
  refine aw_code f31bccaca_eq ?_
  refine aw_loop_k fun K1_ hK1_ => ?_
  refine aw_code f31bccacaa_eq ?_
  refine aw_then ?_
  refine aw_code f31bccacaaa_eq ?_
  refine aw_then ?_
  refine aw_code f31bccacaaaa_eq ?_
  refine aw_reg ?_
  refine aops_go 2 60 (by kernel_rfl) ?_
  have gH2_H_n : H2_.get (H.n) = some ⟨[Value.int .i64 op, .int .u32 N], 26, false⟩ := by rw [hH2_, Heap.get_push, if_neg (by omega)]; exact gH1_H_n
  refine aops_val 11 (.int .i64 op) H2_ (by kernel_rfl) (by kernel_rfl) (by kernel_rfl) ((by kernel_rfl : _ = val (aload T20 3 (.pointer (some ⟨H.n, 0, none⟩)) H2_) H2_).trans (val_of ((aload_at gH2_H_n).trans (by kernel_rfl)))) ?_
  refine aops_ask 12 (.int .i64 1) 29 #[.int .i64 op] (by kernel_rfl) (by kernel_rfl) (by kernel_rfl) (by kernel_rfl) (show some (Value.int .i64 (sizeV op)) = _ by rw [hz]) ?_
  refine aops_go 1 60 (by kernel_rfl) ?_
  refine aops_end (by kernel_rfl) (then_normal ?_)
  refine aw_code f31bccacaaac_eq ?_
  refine aw_cond (t := false) (by kernel_rfl) ?_
  refine aw_exit (then_exit (then_exit (blk_hit (then_normal ?_))))
  refine aw_code f31bccc_eq ?_
  refine aw_then ?_
  refine aw_code f31bccca_eq ?_
  refine aw_reg ?_
  refine aops_go 2 60 (by kernel_rfl) ?_
  refine aops_end (by kernel_rfl) (then_normal ?_)
  refine aw_ret (bodyQ_ret_to (.slice (some ⟨H1_.n, 0, none⟩) 1 1) H2_ (by kernel_rfl) (by kernel_rfl) ?_)
  have gH2_H1__n : H2_.get (H1_.n) = some ⟨[(by0 op)], 5, false⟩ := by rw [hH2_]; exact (Heap.get_push _ _ _).trans (if_pos rfl)
  exact ⟨H1_.n, 1, rfl, by simpa using gH2_H1__n, by omega, (show Up H.n H H2_ from hH2_ ▸ Up.push (by omega) ((show Up H.n H H1_ from hH1_ ▸ Up.push (by omega) (Up.refl _) _)) _)⟩
theorem renc_2 {op N : Int} {H : Heap} (hz : sizeV op = 2) : ACall Tryd.prog T20 31 #[.agg #[.int .i64 op, .int .u32 N]] H fun r H' => ∃ B cap, r = .slice (some ⟨B, 0, none⟩) 2 cap ∧ H'.get B = some ⟨[by0 op, byN N 1], 5, false⟩ ∧ B < H'.n ∧ Up H.n H H' := by
  refine acall_of' 28 (initTm 0 #[.agg #[.int .i64 op, .int .u32 N]]) rfl f31_fn f31_body rfl rfl ?_
  refine aw_code f31b_eq ?_
  refine aw_then ?_
  refine aw_code f31ba_eq ?_
  refine aw_reg ?_
  obtain ⟨H1_, hH1_⟩ : ∃ x : Heap, x = H.push ⟨[Value.int .i64 op, .int .u32 N], 26, false⟩ := ⟨_, rfl⟩
  have nH1_ : H1_.n = H.n + 1 := by rw [hH1_]; rfl
  refine aops_val 1 (.pointer (some ⟨H.n, 0, none⟩)) H1_ (by kernel_rfl) (by kernel_rfl) (by kernel_rfl) ((by kernel_rfl : _ = some (Res.val (.pointer (some ⟨H.n, 0, none⟩)), H.push ⟨[Value.int .i64 op, .int .u32 N], 26, false⟩)).trans (by rw [← hH1_])) ?_
  refine aops_go 1 60 (by kernel_rfl) ?_
  refine aops_end (by kernel_rfl) (then_normal ?_)
  refine aw_code f31bc_eq ?_
  refine aw_then ?_
  refine aw_code f31bca_eq ?_
  refine aw_reg ?_
  refine aops_go 1 60 (by kernel_rfl) ?_
  have gH1_H_n : H1_.get (H.n) = some ⟨[Value.int .i64 op, .int .u32 N], 26, false⟩ := by rw [hH1_]; exact (Heap.get_push _ _ _).trans (if_pos rfl)
  refine aops_val 6 (.int .i64 op) H1_ (by kernel_rfl) (by kernel_rfl) (by kernel_rfl) ((by kernel_rfl : _ = val (aload T20 3 (.pointer (some ⟨H.n, 0, none⟩)) H1_) H1_).trans (val_of ((aload_at gH1_H_n).trans (by kernel_rfl)))) ?_
  refine aops_go 1 60 (by kernel_rfl) ?_
  obtain ⟨H2_, hH2_⟩ : ∃ x : Heap, x = H1_.push ⟨[(by0 op)], 5, false⟩ := ⟨_, rfl⟩
  have nH2_ : H2_.n = H1_.n + 1 := by rw [hH2_]; rfl
  refine aops_val 8 (.slice (some ⟨H1_.n, 0, none⟩) 1 1) H2_ (by kernel_rfl) (by kernel_rfl) (by kernel_rfl) ((by kernel_rfl : _ = some (Res.val (.slice (some ⟨H1_.n, 0, none⟩) 1 1), H1_.push ⟨[(by0 op)], 5, false⟩)).trans (by rw [← hH2_])) ?_
  refine aops_go 1 60 (by kernel_rfl) ?_
  refine aops_end (by kernel_rfl) (then_normal ?_)
  refine aw_code f31bcc_eq ?_
  refine aw_then ?_
  refine aw_code f31bcca_eq ?_
  refine aw_then ?_
  refine aw_code f31bccaa_eq ?_
  refine aw_reg ?_
  refine aops_go 1 60 (by kernel_rfl) ?_
  refine aops_end (by kernel_rfl) (then_normal ?_)
  refine aw_code f31bccac_eq ?_
  refine aw_block ?_
  refine aw_code f31bccaca_eq ?_
  refine aw_loop_k fun K1_ hK1_ => ?_
  refine aw_code f31bccacaa_eq ?_
  refine aw_then ?_
  refine aw_code f31bccacaaa_eq ?_
  refine aw_then ?_
  refine aw_code f31bccacaaaa_eq ?_
  refine aw_reg ?_
  refine aops_go 2 60 (by kernel_rfl) ?_
  have gH2_H_n : H2_.get (H.n) = some ⟨[Value.int .i64 op, .int .u32 N], 26, false⟩ := by rw [hH2_, Heap.get_push, if_neg (by omega)]; exact gH1_H_n
  refine aops_val 11 (.int .i64 op) H2_ (by kernel_rfl) (by kernel_rfl) (by kernel_rfl) ((by kernel_rfl : _ = val (aload T20 3 (.pointer (some ⟨H.n, 0, none⟩)) H2_) H2_).trans (val_of ((aload_at gH2_H_n).trans (by kernel_rfl)))) ?_
  refine aops_ask 12 (.int .i64 2) 29 #[.int .i64 op] (by kernel_rfl) (by kernel_rfl) (by kernel_rfl) (by kernel_rfl) (show some (Value.int .i64 (sizeV op)) = _ by rw [hz]) ?_
  refine aops_go 1 60 (by kernel_rfl) ?_
  refine aops_end (by kernel_rfl) (then_normal ?_)
  refine aw_code f31bccacaaac_eq ?_
  refine aw_cond (t := true) (by kernel_rfl) ?_
  refine aw_skip (then_normal ?_)
  refine aw_code f31bccacaac_eq ?_
  refine aw_then ?_
  refine aw_code f31bccacaaca_eq ?_
  refine aw_block ?_
  refine aw_code f31bccacaacaa_eq ?_
  refine aw_reg ?_
  refine aops_go 2 60 (by kernel_rfl) ?_
  refine aops_val 18 (.int .u32 N) H2_ (by kernel_rfl) (by kernel_rfl) (by kernel_rfl) ((by kernel_rfl : _ = val (aload T20 22 (.pointer (some ⟨H.n, 1, none⟩)) H2_) H2_).trans (val_of ((aload_at gH2_H_n).trans (by kernel_rfl)))) ?_
  refine aops_go 6 60 (by kernel_rfl) ?_
  obtain ⟨H3_, hH3_⟩ : ∃ x : Heap, x = H2_.push ⟨[(byN N 1)], 5, false⟩ := ⟨_, rfl⟩
  have nH3_ : H3_.n = H2_.n + 1 := by rw [hH3_]; rfl
  refine aops_val 25 (.slice (some ⟨H2_.n, 0, none⟩) 1 1) H3_ (by kernel_rfl) (by kernel_rfl) (by kernel_rfl) ((by kernel_rfl : _ = some (Res.val (.slice (some ⟨H2_.n, 0, none⟩) 1 1), H2_.push ⟨[(byN N 1)], 5, false⟩)).trans (by rw [← hH3_])) ?_
  have gH3_H2__n : H3_.get (H2_.n) = some ⟨[(byN N 1)], 5, false⟩ := by rw [hH3_]; exact (Heap.get_push _ _ _).trans (if_pos rfl)
  have gH3_H1__n : H3_.get (H1_.n) = some ⟨[(by0 op)], 5, false⟩ := by rw [hH3_, Heap.get_push, if_neg (by omega)]; rw [hH2_]; exact (Heap.get_push _ _ _).trans (if_pos rfl)
  obtain ⟨H4_, hH4_⟩ : ∃ x : Heap, x = H3_.push ⟨[(by0 op)] ++ [(byN N 1)], 5, false⟩ := ⟨_, rfl⟩
  have nH4_ : H4_.n = H3_.n + 1 := by rw [hH4_]; rfl
  refine aops_val 26 (.slice (some ⟨H3_.n, 0, none⟩) 2 (unk + 1)) H4_ (by kernel_rfl) (by kernel_rfl) (by kernel_rfl) ((by kernel_rfl : _ = val2 (aappend T20 27 27 (.slice (some ⟨H1_.n, 0, none⟩) 1 1) (.slice (some ⟨H2_.n, 0, none⟩) 1 1) H3_)).trans (by rw [aappend_full (e := 5) (xd := .slice 5) (s0 := 0) (by_ := 0) (z := .int .u8 0) (by kernel_rfl) (by kernel_rfl) rfl (by kernel_rfl) (by kernel_rfl) (by kernel_rfl) gH3_H1__n rfl (asrc_blk (l := [(byN N 1)]) gH3_H2__n rfl rfl) (by omega) (by intro h0; simp only [blockOf, Option.some.injEq] at h0; omega) (by omega) (by unfold unk; omega) (by omega), ← hH4_]; rfl)) ?_
  refine aops_go 1 60 (by kernel_rfl) ?_
  refine aops_end (by kernel_rfl) (blk_normal (then_normal ?_))
  refine aw_code f31bccacaacc_eq ?_
  refine aw_reg ?_
  refine aops_go 3 60 (by kernel_rfl) ?_
  refine aops_end (by kernel_rfl) (then_normal (hK1_ _ ?_))
  refine aw_loop_k fun K2_ hK2_ => ?_
  refine aw_code f31bccacaa_eq ?_
  refine aw_then ?_
  refine aw_code f31bccacaaa_eq ?_
  refine aw_then ?_
  refine aw_code f31bccacaaaa_eq ?_
  refine aw_reg ?_
  refine aops_go 2 60 (by kernel_rfl) ?_
  have gH4_H_n : H4_.get (H.n) = some ⟨[Value.int .i64 op, .int .u32 N], 26, false⟩ := by rw [hH4_, Heap.get_push, if_neg (by omega)]; rw [hH3_, Heap.get_push, if_neg (by omega)]; exact gH2_H_n
  refine aops_val 11 (.int .i64 op) H4_ (by kernel_rfl) (by kernel_rfl) (by kernel_rfl) ((by kernel_rfl : _ = val (aload T20 3 (.pointer (some ⟨H.n, 0, none⟩)) H4_) H4_).trans (val_of ((aload_at gH4_H_n).trans (by kernel_rfl)))) ?_
  refine aops_ask 12 (.int .i64 2) 29 #[.int .i64 op] (by kernel_rfl) (by kernel_rfl) (by kernel_rfl) (by kernel_rfl) (show some (Value.int .i64 (sizeV op)) = _ by rw [hz]) ?_
  refine aops_go 1 60 (by kernel_rfl) ?_
  refine aops_end (by kernel_rfl) (then_normal ?_)
  refine aw_code f31bccacaaac_eq ?_
  refine aw_cond (t := false) (by kernel_rfl) ?_
  refine aw_exit (then_exit (then_exit (blk_hit (then_normal ?_))))
  refine aw_code f31bccc_eq ?_
  refine aw_then ?_
  refine aw_code f31bccca_eq ?_
  refine aw_reg ?_
  refine aops_go 2 60 (by kernel_rfl) ?_
  refine aops_end (by kernel_rfl) (then_normal ?_)
  refine aw_ret (bodyQ_ret_to (.slice (some ⟨H3_.n, 0, none⟩) 2 (unk + 1)) H4_ (by kernel_rfl) (by kernel_rfl) ?_)
  have gH4_H3__n : H4_.get (H3_.n) = some ⟨[(by0 op), (byN N 1)], 5, false⟩ := by rw [hH4_]; exact (Heap.get_push _ _ _).trans (if_pos rfl)
  exact ⟨H3_.n, unk + 1, rfl, by simpa using gH4_H3__n, by omega, (show Up H.n H H4_ from hH4_ ▸ Up.push (by omega) ((show Up H.n H H3_ from hH3_ ▸ Up.push (by omega) ((show Up H.n H H2_ from hH2_ ▸ Up.push (by omega) ((show Up H.n H H1_ from hH1_ ▸ Up.push (by omega) (Up.refl _) _)) _)) _)) _)⟩
theorem renc_5 {op N : Int} {H : Heap} (hz : sizeV op = 5) : ACall Tryd.prog T20 31 #[.agg #[.int .i64 op, .int .u32 N]] H fun r H' => ∃ B cap, r = .slice (some ⟨B, 0, none⟩) 5 cap ∧ H'.get B = some ⟨[by0 op, byN N 1, byN N 256, byN N 65536, byN N 16777216], 5, false⟩ ∧ B < H'.n ∧ Up H.n H H' := by
  refine acall_of' 28 (initTm 0 #[.agg #[.int .i64 op, .int .u32 N]]) rfl f31_fn f31_body rfl rfl ?_
  refine aw_code f31b_eq ?_
  refine aw_then ?_
  refine aw_code f31ba_eq ?_
  refine aw_reg ?_
  obtain ⟨H1_, hH1_⟩ : ∃ x : Heap, x = H.push ⟨[Value.int .i64 op, .int .u32 N], 26, false⟩ := ⟨_, rfl⟩
  have nH1_ : H1_.n = H.n + 1 := by rw [hH1_]; rfl
  refine aops_val 1 (.pointer (some ⟨H.n, 0, none⟩)) H1_ (by kernel_rfl) (by kernel_rfl) (by kernel_rfl) ((by kernel_rfl : _ = some (Res.val (.pointer (some ⟨H.n, 0, none⟩)), H.push ⟨[Value.int .i64 op, .int .u32 N], 26, false⟩)).trans (by rw [← hH1_])) ?_
  refine aops_go 1 60 (by kernel_rfl) ?_
  refine aops_end (by kernel_rfl) (then_normal ?_)
  refine aw_code f31bc_eq ?_
  refine aw_then ?_
  refine aw_code f31bca_eq ?_
  refine aw_reg ?_
  refine aops_go 1 60 (by kernel_rfl) ?_
  have gH1_H_n : H1_.get (H.n) = some ⟨[Value.int .i64 op, .int .u32 N], 26, false⟩ := by rw [hH1_]; exact (Heap.get_push _ _ _).trans (if_pos rfl)
  refine aops_val 6 (.int .i64 op) H1_ (by kernel_rfl) (by kernel_rfl) (by kernel_rfl) ((by kernel_rfl : _ = val (aload T20 3 (.pointer (some ⟨H.n, 0, none⟩)) H1_) H1_).trans (val_of ((aload_at gH1_H_n).trans (by kernel_rfl)))) ?_
  refine aops_go 1 60 (by kernel_rfl) ?_
  obtain ⟨H2_, hH2_⟩ : ∃ x : Heap, x = H1_.push ⟨[(by0 op)], 5, false⟩ := ⟨_, rfl⟩
  have nH2_ : H2_.n = H1_.n + 1 := by rw [hH2_]; rfl
  refine aops_val 8 (.slice (some ⟨H1_.n, 0, none⟩) 1 1) H2_ (by kernel_rfl) (by kernel_rfl) (by kernel_rfl) ((by kernel_rfl : _ = some (Res.val (.slice (some ⟨H1_.n, 0, none⟩) 1 1), H1_.push ⟨[(by0 op)], 5, false⟩)).trans (by rw [← hH2_])) ?_
  refine aops_go 1 60 (by kernel_rfl) ?_
  refine aops_end (by kernel_rfl) (then_normal ?_)
  refine aw_code f31bcc_eq ?_
  refine aw_then ?_
  refine aw_code f31bcca_eq ?_
  refine aw_then ?_
  refine aw_code f31bccaa_eq ?_
  refine aw_reg ?_
  refine aops_go 1 60 (by kernel_rfl) ?_
  refine aops_end (by kernel_rfl) (then_normal ?_)
  refine aw_code f31bccac_eq ?_
  refine aw_block ?_
  refine aw_code f31bccaca_eq ?_
  refine aw_loop_k fun K1_ hK1_ => ?_
  refine aw_code f31bccacaa_eq ?_
  refine aw_then ?_
  refine aw_code f31bccacaaa_eq ?_
  refine aw_then ?_
  refine aw_code f31bccacaaaa_eq ?_
  refine aw_reg ?_
  refine aops_go 2 60 (by kernel_rfl) ?_
  have gH2_H_n : H2_.get (H.n) = some ⟨[Value.int .i64 op, .int .u32 N], 26, false⟩ := by rw [hH2_, Heap.get_push, if_neg (by omega)]; exact gH1_H_n
  refine aops_val 11 (.int .i64 op) H2_ (by kernel_rfl) (by kernel_rfl) (by kernel_rfl) ((by kernel_rfl : _ = val (aload T20 3 (.pointer (some ⟨H.n, 0, none⟩)) H2_) H2_).trans (val_of ((aload_at gH2_H_n).trans (by kernel_rfl)))) ?_
  refine aops_ask 12 (.int .i64 5) 29 #[.int .i64 op] (by kernel_rfl) (by kernel_rfl) (by kernel_rfl) (by kernel_rfl) (show some (Value.int .i64 (sizeV op)) = _ by rw [hz]) ?_
  refine aops_go 1 60 (by kernel_rfl) ?_
  refine aops_end (by kernel_rfl) (then_normal ?_)
  refine aw_code f31bccacaaac_eq ?_
  refine aw_cond (t := true) (by kernel_rfl) ?_
  refine aw_skip (then_normal ?_)
  refine aw_code f31bccacaac_eq ?_
  refine aw_then ?_
  refine aw_code f31bccacaaca_eq ?_
  refine aw_block ?_
  refine aw_code f31bccacaacaa_eq ?_
  refine aw_reg ?_
  refine aops_go 2 60 (by kernel_rfl) ?_
  refine aops_val 18 (.int .u32 N) H2_ (by kernel_rfl) (by kernel_rfl) (by kernel_rfl) ((by kernel_rfl : _ = val (aload T20 22 (.pointer (some ⟨H.n, 1, none⟩)) H2_) H2_).trans (val_of ((aload_at gH2_H_n).trans (by kernel_rfl)))) ?_
  refine aops_go 6 60 (by kernel_rfl) ?_
  obtain ⟨H3_, hH3_⟩ : ∃ x : Heap, x = H2_.push ⟨[(byN N 1)], 5, false⟩ := ⟨_, rfl⟩
  have nH3_ : H3_.n = H2_.n + 1 := by rw [hH3_]; rfl
  refine aops_val 25 (.slice (some ⟨H2_.n, 0, none⟩) 1 1) H3_ (by kernel_rfl) (by kernel_rfl) (by kernel_rfl) ((by kernel_rfl : _ = some (Res.val (.slice (some ⟨H2_.n, 0, none⟩) 1 1), H2_.push ⟨[(byN N 1)], 5, false⟩)).trans (by rw [← hH3_])) ?_
  have gH3_H2__n : H3_.get (H2_.n) = some ⟨[(byN N 1)], 5, false⟩ := by rw [hH3_]; exact (Heap.get_push _ _ _).trans (if_pos rfl)
  have gH3_H1__n : H3_.get (H1_.n) = some ⟨[(by0 op)], 5, false⟩ := by rw [hH3_, Heap.get_push, if_neg (by omega)]; rw [hH2_]; exact (Heap.get_push _ _ _).trans (if_pos rfl)
  obtain ⟨H4_, hH4_⟩ : ∃ x : Heap, x = H3_.push ⟨[(by0 op)] ++ [(byN N 1)], 5, false⟩ := ⟨_, rfl⟩
  have nH4_ : H4_.n = H3_.n + 1 := by rw [hH4_]; rfl
  refine aops_val 26 (.slice (some ⟨H3_.n, 0, none⟩) 2 (unk + 1)) H4_ (by kernel_rfl) (by kernel_rfl) (by kernel_rfl) ((by kernel_rfl : _ = val2 (aappend T20 27 27 (.slice (some ⟨H1_.n, 0, none⟩) 1 1) (.slice (some ⟨H2_.n, 0, none⟩) 1 1) H3_)).trans (by rw [aappend_full (e := 5) (xd := .slice 5) (s0 := 0) (by_ := 0) (z := .int .u8 0) (by kernel_rfl) (by kernel_rfl) rfl (by kernel_rfl) (by kernel_rfl) (by kernel_rfl) gH3_H1__n rfl (asrc_blk (l := [(byN N 1)]) gH3_H2__n rfl rfl) (by omega) (by intro h0; simp only [blockOf, Option.some.injEq] at h0; omega) (by omega) (by unfold unk; omega) (by omega), ← hH4_]; rfl)) ?_
  refine aops_go 1 60 (by kernel_rfl) ?_
  refine aops_end (by kernel_rfl) (blk_normal (then_normal ?_))
  refine aw_code f31bccacaacc_eq ?_
  refine aw_reg ?_
  refine aops_go 3 60 (by kernel_rfl) ?_
  refine aops_end (by kernel_rfl) (then_normal (hK1_ _ ?_))
  refine aw_loop_k fun K2_ hK2_ => ?_
  refine aw_code f31bccacaa_eq ?_
  refine aw_then ?_
  refine aw_code f31bccacaaa_eq ?_
  refine aw_then ?_
  refine aw_code f31bccacaaaa_eq ?_
  refine aw_reg ?_
  refine aops_go 2 60 (by kernel_rfl) ?_
  have gH4_H_n : H4_.get (H.n) = some ⟨[Value.int .i64 op, .int .u32 N], 26, false⟩ := by rw [hH4_, Heap.get_push, if_neg (by omega)]; rw [hH3_, Heap.get_push, if_neg (by omega)]; exact gH2_H_n
  refine aops_val 11 (.int .i64 op) H4_ (by kernel_rfl) (by kernel_rfl) (by kernel_rfl) ((by kernel_rfl : _ = val (aload T20 3 (.pointer (some ⟨H.n, 0, none⟩)) H4_) H4_).trans (val_of ((aload_at gH4_H_n).trans (by kernel_rfl)))) ?_
  refine aops_ask 12 (.int .i64 5) 29 #[.int .i64 op] (by kernel_rfl) (by kernel_rfl) (by kernel_rfl) (by kernel_rfl) (show some (Value.int .i64 (sizeV op)) = _ by rw [hz]) ?_
  refine aops_go 1 60 (by kernel_rfl) ?_
  refine aops_end (by kernel_rfl) (then_normal ?_)
  refine aw_code f31bccacaaac_eq ?_
  refine aw_cond (t := true) (by kernel_rfl) ?_
  refine aw_skip (then_normal ?_)
  refine aw_code f31bccacaac_eq ?_
  refine aw_then ?_
  refine aw_code f31bccacaaca_eq ?_
  refine aw_block ?_
  refine aw_code f31bccacaacaa_eq ?_
  refine aw_reg ?_
  refine aops_go 2 60 (by kernel_rfl) ?_
  refine aops_val 18 (.int .u32 N) H4_ (by kernel_rfl) (by kernel_rfl) (by kernel_rfl) ((by kernel_rfl : _ = val (aload T20 22 (.pointer (some ⟨H.n, 1, none⟩)) H4_) H4_).trans (val_of ((aload_at gH4_H_n).trans (by kernel_rfl)))) ?_
  refine aops_go 6 60 (by kernel_rfl) ?_
  obtain ⟨H5_, hH5_⟩ : ∃ x : Heap, x = H4_.push ⟨[(byN N 256)], 5, false⟩ := ⟨_, rfl⟩
  have nH5_ : H5_.n = H4_.n + 1 := by rw [hH5_]; rfl
  refine aops_val 25 (.slice (some ⟨H4_.n, 0, none⟩) 1 1) H5_ (by kernel_rfl) (by kernel_rfl) (by kernel_rfl) ((by kernel_rfl : _ = some (Res.val (.slice (some ⟨H4_.n, 0, none⟩) 1 1), H4_.push ⟨[(byN N 256)], 5, false⟩)).trans (by rw [← hH5_])) ?_
  have gH5_H4__n : H5_.get (H4_.n) = some ⟨[(byN N 256)], 5, false⟩ := by rw [hH5_]; exact (Heap.get_push _ _ _).trans (if_pos rfl)
  have gH5_H3__n : H5_.get (H3_.n) = some ⟨[(by0 op), (byN N 1)], 5, false⟩ := by rw [hH5_, Heap.get_push, if_neg (by omega)]; rw [hH4_]; exact (Heap.get_push _ _ _).trans (if_pos rfl)
  obtain ⟨H6_, hH6_⟩ : ∃ x : Heap, x = (H5_.kill (H3_.n)).push ⟨[(by0 op), (byN N 1)] ++ [(byN N 256)], 5, false⟩ := ⟨_, rfl⟩
  have nH6_ : H6_.n = H5_.n + 1 := by rw [hH6_]; rfl
  refine aops_val 26 (.slice (some ⟨H5_.n, 0, none⟩) 3 (unk + 1)) H6_ (by kernel_rfl) (by kernel_rfl) (by kernel_rfl) ((by kernel_rfl : _ = val2 (aappend T20 27 27 (.slice (some ⟨H3_.n, 0, none⟩) 2 (unk + 1)) (.slice (some ⟨H4_.n, 0, none⟩) 1 1) H5_)).trans (by rw [aappend_grow (e := 5) (xd := .slice 5) (s0 := 0) (by_ := 0) (z := .int .u8 0) (by kernel_rfl) (by kernel_rfl) rfl (by kernel_rfl) (by kernel_rfl) (by kernel_rfl) gH5_H3__n rfl (asrc_blk (l := [(byN N 256)]) gH5_H4__n rfl rfl) rfl (by omega) (by intro h0; simp only [blockOf, Option.some.injEq] at h0; omega) (by omega), ← hH6_]; rfl)) ?_
  refine aops_go 1 60 (by kernel_rfl) ?_
  refine aops_end (by kernel_rfl) (blk_normal (then_normal ?_))
  refine aw_code f31bccacaacc_eq ?_
  refine aw_reg ?_
  refine aops_go 3 60 (by kernel_rfl) ?_
  refine aops_end (by kernel_rfl) (then_normal (hK2_ _ ?_))
  refine aw_loop_k fun K3_ hK3_ => ?_
  refine aw_code f31bccacaa_eq ?_
  refine aw_then ?_
  refine aw_code f31bccacaaa_eq ?_
  refine aw_then ?_
  refine aw_code f31bccacaaaa_eq ?_
  refine aw_reg ?_
  refine aops_go 2 60 (by kernel_rfl) ?_
  have gH6_H_n : H6_.get (H.n) = some ⟨[Value.int .i64 op, .int .u32 N], 26, false⟩ := by rw [hH6_, Heap.get_push, Heap.n_kill, if_neg (by omega), Heap.get_kill, if_neg (by omega)]; rw [hH5_, Heap.get_push, if_neg (by omega)]; exact gH4_H_n
  refine aops_val 11 (.int .i64 op) H6_ (by kernel_rfl) (by kernel_rfl) (by kernel_rfl) ((by kernel_rfl : _ = val (aload T20 3 (.pointer (some ⟨H.n, 0, none⟩)) H6_) H6_).trans (val_of ((aload_at gH6_H_n).trans (by kernel_rfl)))) ?_
  refine aops_ask 12 (.int .i64 5) 29 #[.int .i64 op] (by kernel_rfl) (by kernel_rfl) (by kernel_rfl) (by kernel_rfl) (show some (Value.int .i64 (sizeV op)) = _ by rw [hz]) ?_
  refine aops_go 1 60 (by kernel_rfl) ?_
  refine aops_end (by kernel_rfl) (then_normal ?_)
  refine aw_code f31bccacaaac_eq ?_
  refine aw_cond (t := true) (by kernel_rfl) ?_
  refine aw_skip (then_normal ?_)
  refine aw_code f31bccacaac_eq ?_
  refine aw_then ?_
  refine aw_code f31bccacaaca_eq ?_
  refine aw_block ?_
  refine aw_code f31bccacaacaa_eq ?_
  refine aw_reg ?_
  refine aops_go 2 60 (by kernel_rfl) ?_
  refine aops_val 18 (.int .u32 N) H6_ (by kernel_rfl) (by kernel_rfl) (by kernel_rfl) ((by kernel_rfl : _ = val (aload T20 22 (.pointer (some ⟨H.n, 1, none⟩)) H6_) H6_).trans (val_of ((aload_at gH6_H_n).trans (by kernel_rfl)))) ?_
  refine aops_go 6 60 (by kernel_rfl) ?_
  obtain ⟨H7_, hH7_⟩ : ∃ x : Heap, x = H6_.push ⟨[(byN N 65536)], 5, false⟩ := ⟨_, rfl⟩
  have nH7_ : H7_.n = H6_.n + 1 := by rw [hH7_]; rfl
  refine aops_val 25 (.slice (some ⟨H6_.n, 0, none⟩) 1 1) H7_ (by kernel_rfl) (by kernel_rfl) (by kernel_rfl) ((by kernel_rfl : _ = some (Res.val (.slice (some ⟨H6_.n, 0, none⟩) 1 1), H6_.push ⟨[(byN N 65536)], 5, false⟩)).trans (by rw [← hH7_])) ?_
  have gH7_H6__n : H7_.get (H6_.n) = some ⟨[(byN N 65536)], 5, false⟩ := by rw [hH7_]; exact (Heap.get_push _ _ _).trans (if_pos rfl)
  have gH7_H5__n : H7_.get (H5_.n) = some ⟨[(by0 op), (byN N 1), (byN N 256)], 5, false⟩ := by rw [hH7_, Heap.get_push, if_neg (by omega)]; rw [hH6_]; exact (Heap.get_push _ _ _).trans (if_pos rfl)
  obtain ⟨H8_, hH8_⟩ : ∃ x : Heap, x = (H7_.kill (H5_.n)).push ⟨[(by0 op), (byN N 1), (byN N 256)] ++ [(byN N 65536)], 5, false⟩ := ⟨_, rfl⟩
  have nH8_ : H8_.n = H7_.n + 1 := by rw [hH8_]; rfl
  refine aops_val 26 (.slice (some ⟨H7_.n, 0, none⟩) 4 (unk + 1)) H8_ (by kernel_rfl) (by kernel_rfl) (by kernel_rfl) ((by kernel_rfl : _ = val2 (aappend T20 27 27 (.slice (some ⟨H5_.n, 0, none⟩) 3 (unk + 1)) (.slice (some ⟨H6_.n, 0, none⟩) 1 1) H7_)).trans (by rw [aappend_grow (e := 5) (xd := .slice 5) (s0 := 0) (by_ := 0) (z := .int .u8 0) (by kernel_rfl) (by kernel_rfl) rfl (by kernel_rfl) (by kernel_rfl) (by kernel_rfl) gH7_H5__n rfl (asrc_blk (l := [(byN N 65536)]) gH7_H6__n rfl rfl) rfl (by omega) (by intro h0; simp only [blockOf, Option.some.injEq] at h0; omega) (by omega), ← hH8_]; rfl)) ?_
  refine aops_go 1 60 (by kernel_rfl) ?_
  refine aops_end (by kernel_rfl) (blk_normal (then_normal ?_))
  refine aw_code f31bccacaacc_eq ?_
  refine aw_reg ?_
  refine aops_go 3 60 (by kernel_rfl) ?_
  refine aops_end (by kernel_rfl) (then_normal (hK3_ _ ?_))
  refine aw_loop_k fun K4_ hK4_ => ?_
  refine aw_code f31bccacaa_eq ?_
  refine aw_then ?_
  refine aw_code f31bccacaaa_eq ?_
  refine aw_then ?_
  refine aw_code f31bccacaaaa_eq ?_
  refine aw_reg ?_
  refine aops_go 2 60 (by kernel_rfl) ?_
  have gH8_H_n : H8_.get (H.n) = some ⟨[Value.int .i64 op, .int .u32 N], 26, false⟩ := by rw [hH8_, Heap.get_push, Heap.n_kill, if_neg (by omega), Heap.get_kill, if_neg (by omega)]; rw [hH7_, Heap.get_push, if_neg (by omega)]; exact gH6_H_n
  refine aops_val 11 (.int .i64 op) H8_ (by kernel_rfl) (by kernel_rfl) (by kernel_rfl) ((by kernel_rfl : _ = val (aload T20 3 (.pointer (some ⟨H.n, 0, none⟩)) H8_) H8_).trans (val_of ((aload_at gH8_H_n).trans (by kernel_rfl)))) ?_
  refine aops_ask 12 (.int .i64 5) 29 #[.int .i64 op] (by kernel_rfl) (by kernel_rfl) (by kernel_rfl) (by kernel_rfl) (show some (Value.int .i64 (sizeV op)) = _ by rw [hz]) ?_
  refine aops_go 1 60 (by kernel_rfl) ?_
  refine aops_end (by kernel_rfl) (then_normal ?_)
  refine aw_code f31bccacaaac_eq ?_
  refine aw_cond (t := true) (by kernel_rfl) ?_
  refine aw_skip (then_normal ?_)
  refine aw_code f31bccacaac_eq ?_
  refine aw_then ?_
  refine aw_code f31bccacaaca_eq ?_
  refine aw_block ?_
  refine aw_code f31bccacaacaa_eq ?_
  refine aw_reg ?_
  refine aops_go 2 60 (by kernel_rfl) ?_
  refine aops_val 18 (.int .u32 N) H8_ (by kernel_rfl) (by kernel_rfl) (by kernel_rfl) ((by kernel_rfl : _ = val (aload T20 22 (.pointer (some ⟨H.n, 1, none⟩)) H8_) H8_).trans (val_of ((aload_at gH8_H_n).trans (by kernel_rfl)))) ?_
  refine aops_go 6 60 (by kernel_rfl) ?_
  obtain ⟨H9_, hH9_⟩ : ∃ x : Heap, x = H8_.push ⟨[(byN N 16777216)], 5, false⟩ := ⟨_, rfl⟩
  have nH9_ : H9_.n = H8_.n + 1 := by rw [hH9_]; rfl
  refine aops_val 25 (.slice (some ⟨H8_.n, 0, none⟩) 1 1) H9_ (by kernel_rfl) (by kernel_rfl) (by kernel_rfl) ((by kernel_rfl : _ = some (Res.val (.slice (some ⟨H8_.n, 0, none⟩) 1 1), H8_.push ⟨[(byN N 16777216)], 5, false⟩)).trans (by rw [← hH9_])) ?_
  have gH9_H8__n : H9_.get (H8_.n) = some ⟨[(byN N 16777216)], 5, false⟩ := by rw [hH9_]; exact (Heap.get_push _ _ _).trans (if_pos rfl)
  have gH9_H7__n : H9_.get (H7_.n) = some ⟨[(by0 op), (byN N 1), (byN N 256), (byN N 65536)], 5, false⟩ := by rw [hH9_, Heap.get_push, if_neg (by omega)]; rw [hH8_]; exact (Heap.get_push _ _ _).trans (if_pos rfl)
  obtain ⟨H10_, hH10_⟩ : ∃ x : Heap, x = (H9_.kill (H7_.n)).push ⟨[(by0 op), (byN N 1), (byN N 256), (byN N 65536)] ++ [(byN N 16777216)], 5, false⟩ := ⟨_, rfl⟩
  have nH10_ : H10_.n = H9_.n + 1 := by rw [hH10_]; rfl
  refine aops_val 26 (.slice (some ⟨H9_.n, 0, none⟩) 5 (unk + 1)) H10_ (by kernel_rfl) (by kernel_rfl) (by kernel_rfl) ((by kernel_rfl : _ = val2 (aappend T20 27 27 (.slice (some ⟨H7_.n, 0, none⟩) 4 (unk + 1)) (.slice (some ⟨H8_.n, 0, none⟩) 1 1) H9_)).trans (by rw [aappend_grow (e := 5) (xd := .slice 5) (s0 := 0) (by_ := 0) (z := .int .u8 0) (by kernel_rfl) (by kernel_rfl) rfl (by kernel_rfl) (by kernel_rfl) (by kernel_rfl) gH9_H7__n rfl (asrc_blk (l := [(byN N 16777216)]) gH9_H8__n rfl rfl) rfl (by omega) (by intro h0; simp only [blockOf, Option.some.injEq] at h0; omega) (by omega), ← hH10_]; rfl)) ?_
  refine aops_go 1 60 (by kernel_rfl) ?_
  refine aops_end (by kernel_rfl) (blk_normal (then_normal ?_))
  refine aw_code f31bccacaacc_eq ?_
  refine aw_reg ?_
  refine aops_go 3 60 (by kernel_rfl) ?_
  refine aops_end (by kernel_rfl) (then_normal (hK4_ _ ?_))
  refine aw_loop_k fun K5_ hK5_ => ?_
  refine aw_code f31bccacaa_eq ?_
  refine aw_then ?_
  refine aw_code f31bccacaaa_eq ?_
  refine aw_then ?_
  refine aw_code f31bccacaaaa_eq ?_
  refine aw_reg ?_
  refine aops_go 2 60 (by kernel_rfl) ?_
  have gH10_H_n : H10_.get (H.n) = some ⟨[Value.int .i64 op, .int .u32 N], 26, false⟩ := by rw [hH10_, Heap.get_push, Heap.n_kill, if_neg (by omega), Heap.get_kill, if_neg (by omega)]; rw [hH9_, Heap.get_push, if_neg (by omega)]; exact gH8_H_n
  refine aops_val 11 (.int .i64 op) H10_ (by kernel_rfl) (by kernel_rfl) (by kernel_rfl) ((by kernel_rfl : _ = val (aload T20 3 (.pointer (some ⟨H.n, 0, none⟩)) H10_) H10_).trans (val_of ((aload_at gH10_H_n).trans (by kernel_rfl)))) ?_
  refine aops_ask 12 (.int .i64 5) 29 #[.int .i64 op] (by kernel_rfl) (by kernel_rfl) (by kernel_rfl) (by kernel_rfl) (show some (Value.int .i64 (sizeV op)) = _ by rw [hz]) ?_
  refine aops_go 1 60 (by kernel_rfl) ?_
  refine aops_end (by kernel_rfl) (then_normal ?_)
  refine aw_code f31bccacaaac_eq ?_
  refine aw_cond (t := false) (by kernel_rfl) ?_
  refine aw_exit (then_exit (then_exit (blk_hit (then_normal ?_))))
  refine aw_code f31bccc_eq ?_
  refine aw_then ?_
  refine aw_code f31bccca_eq ?_
  refine aw_reg ?_
  refine aops_go 2 60 (by kernel_rfl) ?_
  refine aops_end (by kernel_rfl) (then_normal ?_)
  refine aw_ret (bodyQ_ret_to (.slice (some ⟨H9_.n, 0, none⟩) 5 (unk + 1)) H10_ (by kernel_rfl) (by kernel_rfl) ?_)
  have gH10_H9__n : H10_.get (H9_.n) = some ⟨[(by0 op), (byN N 1), (byN N 256), (byN N 65536), (byN N 16777216)], 5, false⟩ := by rw [hH10_]; exact (Heap.get_push _ _ _).trans (if_pos rfl)
  exact ⟨H9_.n, unk + 1, rfl, by simpa using gH10_H9__n, by omega, (show Up H.n H H10_ from hH10_ ▸ Up.push (by rw [Heap.n_kill]; omega) (Up.kill ((show Up H.n H H9_ from hH9_ ▸ Up.push (by omega) ((show Up H.n H H8_ from hH8_ ▸ Up.push (by rw [Heap.n_kill]; omega) (Up.kill ((show Up H.n H H7_ from hH7_ ▸ Up.push (by omega) ((show Up H.n H H6_ from hH6_ ▸ Up.push (by rw [Heap.n_kill]; omega) (Up.kill ((show Up H.n H H5_ from hH5_ ▸ Up.push (by omega) ((show Up H.n H H4_ from hH4_ ▸ Up.push (by omega) ((show Up H.n H H3_ from hH3_ ▸ Up.push (by omega) ((show Up H.n H H2_ from hH2_ ▸ Up.push (by omega) ((show Up H.n H H1_ from hH1_ ▸ Up.push (by omega) (Up.refl _) _)) _)) _)) _)) _)) (by omega)) _)) _)) (by omega)) _)) _)) (by omega)) _)⟩
end Gc
end Go.Proofs.YtpfmmckbfejfnaaDoor
