/- Chapter 2: instructions as bytes. -/
import Derived.Test.YtpfmmckbfejfnaaDoorGe
import Derived.Test.YtpfmmckbfejfnaaDoorEvSe
namespace Go.Proofs.YtpfmmckbfejfnaaDoor
open Go Go.Ev Go.RowKit
set_option linter.unusedVariables false
set_option linter.unusedSimpArgs false
set_option maxRecDepth 100000
namespace Gc
/-- The bytes of an instruction, as they are made. -/
def by0 (op : Int) : Value := .int .u8 (IntKind.u8.wrap op)
def byN (N k : Int) : Value := .int .u8 (IntKind.u8.wrap (Int.fdiv N k))
def encL (op N : Int) : List Value := bif sizeV op == 1 then [by0 op] else bif sizeV op == 2 then [by0 op, byN N 1] else [by0 op, byN N 1, byN N 256, byN N 65536, byN N 16777216]
noncomputable def f40b : Code := Tryd.f40.body.getD .skip
noncomputable def f40ba : Code := cl f40b
noncomputable def f40bao : Array Oper := opsOf f40ba
noncomputable def f40bc : Code := cr f40b
noncomputable def f40bca : Code := cl f40bc
noncomputable def f40bcao : Array Oper := opsOf f40bca
noncomputable def f40bcc : Code := cr f40bc
noncomputable def f40bcca : Code := cl f40bcc
noncomputable def f40bccaa : Code := cl f40bcca
noncomputable def f40bccaao : Array Oper := opsOf f40bccaa
noncomputable def f40bccac : Code := cr f40bcca
noncomputable def f40bccaca : Code := cl f40bccac
noncomputable def f40bccacaa : Code := cl f40bccaca
noncomputable def f40bccacaaa : Code := cl f40bccacaa
noncomputable def f40bccacaaao : Array Oper := opsOf f40bccacaaa
noncomputable def f40bccacaac : Code := cr f40bccacaa
noncomputable def f40bccacaaca : Code := cl f40bccacaac
noncomputable def f40bccacaacc : Code := cr f40bccacaac
noncomputable def f40bccacaacca : Code := cl f40bccacaacc
noncomputable def f40bccacaaccaa : Code := cl f40bccacaacca
noncomputable def f40bccacaaccaaa : Code := cl f40bccacaaccaa
noncomputable def f40bccacaaccaaao : Array Oper := opsOf f40bccacaaccaaa
noncomputable def f40bccacaaccaac : Code := cr f40bccacaaccaa
noncomputable def f40bccacaaccaaco : Array Oper := opsOf f40bccacaaccaac
noncomputable def f40bccacaaccc : Code := cr f40bccacaacc
noncomputable def f40bccacaaccco : Array Oper := opsOf f40bccacaaccc
noncomputable def f40bccc : Code := cr f40bcc
noncomputable def f40bccca : Code := cl f40bccc
noncomputable def f40bcccao : Array Oper := opsOf f40bccca
theorem f40ba_eq : f40ba = .region 0 f40bao false := by kernel_rfl
theorem f40bca_eq : f40bca = .region 1 f40bcao false := by kernel_rfl
theorem f40bccaa_eq : f40bccaa = .region 2 f40bccaao false := by kernel_rfl
theorem f40bccacaaa_eq : f40bccacaaa = .region 3 f40bccacaaao false := by kernel_rfl
theorem f40bccacaaca_eq : f40bccacaaca = .cond (cop f40bccacaaca) .skip (.exit 0) := by kernel_rfl
theorem f40bccacaaccaaa_eq : f40bccacaaccaaa = .region 4 f40bccacaaccaaao false := by kernel_rfl
theorem f40bccacaaccaac_eq : f40bccacaaccaac = .region 5 f40bccacaaccaaco false := by kernel_rfl
theorem f40bccacaaccaa_eq : f40bccacaaccaa = .seq f40bccacaaccaaa f40bccacaaccaac := by kernel_rfl
theorem f40bccacaacca_eq : f40bccacaacca = .block 1 f40bccacaaccaa := by kernel_rfl
theorem f40bccacaaccc_eq : f40bccacaaccc = .region 6 f40bccacaaccco false := by kernel_rfl
theorem f40bccacaacc_eq : f40bccacaacc = .seq f40bccacaacca f40bccacaaccc := by kernel_rfl
theorem f40bccacaac_eq : f40bccacaac = .seq f40bccacaaca f40bccacaacc := by kernel_rfl
theorem f40bccacaa_eq : f40bccacaa = .seq f40bccacaaa f40bccacaac := by kernel_rfl
theorem f40bccaca_eq : f40bccaca = .loop f40bccacaa := by kernel_rfl
theorem f40bccac_eq : f40bccac = .block 0 f40bccaca := by kernel_rfl
theorem f40bcca_eq : f40bcca = .seq f40bccaa f40bccac := by kernel_rfl
theorem f40bccca_eq : f40bccca = .region 7 f40bcccao false := by kernel_rfl
theorem f40bccc_eq : f40bccc = .seq f40bccca .ret := by kernel_rfl
theorem f40bcc_eq : f40bcc = .seq f40bcca f40bccc := by kernel_rfl
theorem f40bc_eq : f40bc = .seq f40bca f40bcc := by kernel_rfl
theorem f40b_eq : f40b = .seq f40ba f40bc := by kernel_rfl
theorem f40_body : Tryd.f40.body = some f40b := by kernel_rfl
theorem f40_fn : T20.fn 40 = some Tryd.f40 := by kernel_rfl
theorem put_nil1 {op N : Int} {H : Heap} (hz : sizeV op = 1) : ACall Tryd.prog T20 40 #[.slice none 0 0, .agg #[.int .i64 op, .int .u32 N]] H fun r H' => ∃ B', r = .slice (some ⟨B', 0, none⟩) (1) (unk + 1) ∧ H'.get B' = some ⟨[by0 op], 5, false⟩ ∧ B' < H'.n ∧ H.n ≤ B' ∧ H.n ≤ H'.n ∧ ∀ b, b < H.n → H'.get b = H.get b := by
  refine acall_of' 30 (initTm 0 #[.slice none 0 0, .agg #[.int .i64 op, .int .u32 N]]) rfl f40_fn f40_body rfl rfl ?_
  rw [f40b_eq]
  refine aw_then ?_
  rw [f40ba_eq]
  refine aw_reg ?_
  obtain ⟨H1_, hH1_⟩ : ∃ x : Heap, x = H.push ⟨[Value.int .i64 op, .int .u32 N], 26, false⟩ := ⟨_, rfl⟩
  have nH1_ : H1_.n = H.n + 1 := by rw [hH1_]; rfl
  refine aops_val 3 (.pointer (some ⟨H.n, 0, none⟩)) H1_ (by kernel_rfl) (by kernel_rfl) (by kernel_rfl) ((by kernel_rfl : _ = some (Res.val (.pointer (some ⟨H.n, 0, none⟩)), H.push ⟨[Value.int .i64 op, .int .u32 N], 26, false⟩)).trans (by rw [← hH1_])) ?_
  refine aops_go 1 60 (by kernel_rfl) ?_
  refine aops_end (by kernel_rfl) (then_normal ?_)
  rw [f40bc_eq]
  refine aw_then ?_
  rw [f40bca_eq]
  refine aw_reg ?_
  refine aops_go 2 60 (by kernel_rfl) ?_
  have gH1_H_n : H1_.get (H.n) = some ⟨[Value.int .i64 op, .int .u32 N], 26, false⟩ := by rw [hH1_]; exact (Heap.get_push _ _ _).trans (if_pos rfl)
  refine aops_val 8 (.int .i64 op) H1_ (by kernel_rfl) (by kernel_rfl) (by kernel_rfl) ((by kernel_rfl : _ = val (aload T20 3 (.pointer (some ⟨H.n, 0, none⟩)) H1_) H1_).trans (val_of ((aload_at gH1_H_n).trans (by kernel_rfl)))) ?_
  refine aops_go 1 60 (by kernel_rfl) ?_
  obtain ⟨H2_, hH2_⟩ : ∃ x : Heap, x = H1_.push ⟨[(by0 op)], 5, false⟩ := ⟨_, rfl⟩
  have nH2_ : H2_.n = H1_.n + 1 := by rw [hH2_]; rfl
  refine aops_val 10 (.slice (some ⟨H1_.n, 0, none⟩) 1 1) H2_ (by kernel_rfl) (by kernel_rfl) (by kernel_rfl) ((by kernel_rfl : _ = some (Res.val (.slice (some ⟨H1_.n, 0, none⟩) 1 1), H1_.push ⟨[(by0 op)], 5, false⟩)).trans (by rw [← hH2_])) ?_
  have gH2_H1__n : H2_.get (H1_.n) = some ⟨[(by0 op)], 5, false⟩ := by rw [hH2_]; exact (Heap.get_push _ _ _).trans (if_pos rfl)
  obtain ⟨H3_, hH3_⟩ : ∃ x : Heap, x = H2_.push ⟨[(by0 op)], 5, false⟩ := ⟨_, rfl⟩
  have nH3_ : H3_.n = H2_.n + 1 := by rw [hH3_]; rfl
  refine aops_val 11 (.slice (some ⟨H2_.n, 0, none⟩) 1 (unk + 1)) H3_ (by kernel_rfl) (by kernel_rfl) (by kernel_rfl) ((by kernel_rfl : _ = val2 (aappend T20 27 27 (.slice none 0 0) (.slice (some ⟨H1_.n, 0, none⟩) 1 1) H2_)).trans (by rw [aappend_nil (e := 5) (xd := .slice 5) (s0 := 0) (by_ := 0) (z := .int .u8 0) (by kernel_rfl) (by kernel_rfl) rfl (by kernel_rfl) (by kernel_rfl) (by kernel_rfl) (asrc_blk (l := [(by0 op)]) gH2_H1__n rfl rfl) (by omega) (by omega), ← hH3_]; rfl)) ?_
  refine aops_go 1 60 (by kernel_rfl) ?_
  refine aops_end (by kernel_rfl) (then_normal ?_)
  rw [f40bcc_eq]
  refine aw_then ?_
  rw [f40bcca_eq]
  refine aw_then ?_
  rw [f40bccaa_eq]
  refine aw_reg ?_
  refine aops_go 1 60 (by kernel_rfl) ?_
  have gH3_H_n : H3_.get (H.n) = some ⟨[Value.int .i64 op, .int .u32 N], 26, false⟩ := by rw [hH3_, Heap.get_push, if_neg (by omega)]; rw [hH2_, Heap.get_push, if_neg (by omega)]; exact gH1_H_n
  refine aops_val 13 (.int .i64 op) H3_ (by kernel_rfl) (by kernel_rfl) (by kernel_rfl) ((by kernel_rfl : _ = val (aload T20 3 (.pointer (some ⟨H.n, 0, none⟩)) H3_) H3_).trans (val_of ((aload_at gH3_H_n).trans (by kernel_rfl)))) ?_
  refine aops_ask 14 (.int .i64 1) 15 #[.int .i64 op] (by kernel_rfl) (by kernel_rfl) (by kernel_rfl) (by kernel_rfl) (show some (Value.int .i64 (sizeV op)) = _ by rw [hz]) ?_
  refine aops_go 2 60 (by kernel_rfl) ?_
  refine aops_end (by kernel_rfl) (then_normal ?_)
  rw [f40bccac_eq]
  refine aw_block ?_
  rw [f40bccaca_eq]
  refine aw_loop_k fun K1_ hK1_ => ?_
  rw [f40bccacaa_eq]
  refine aw_then ?_
  rw [f40bccacaaa_eq]
  refine aw_reg ?_
  refine aops_go 1 60 (by kernel_rfl) ?_
  refine aops_end (by kernel_rfl) (then_normal ?_)
  rw [f40bccacaac_eq]
  refine aw_then ?_
  rw [f40bccacaaca_eq]
  refine aw_cond (t := false) (by kernel_rfl) ?_
  refine aw_exit (then_exit (then_exit (blk_hit (then_normal ?_))))
  rw [f40bccc_eq]
  refine aw_then ?_
  rw [f40bccca_eq]
  refine aw_reg ?_
  refine aops_go 2 60 (by kernel_rfl) ?_
  refine aops_end (by kernel_rfl) (then_normal ?_)
  refine aw_ret (bodyQ_ret_to (.slice (some ⟨H2_.n, 0, none⟩) 1 (unk + 1)) H3_ (by kernel_rfl) (by kernel_rfl) ?_)
  have gH3_H2__n : H3_.get (H2_.n) = some ⟨[(by0 op)], 5, false⟩ := by rw [hH3_]; exact (Heap.get_push _ _ _).trans (if_pos rfl)
  refine ⟨H2_.n, rfl, by simpa using gH3_H2__n, by omega, by omega, by omega, fun b hb => ?_⟩
  rw [hH3_, Heap.get_push, if_neg (by omega)]
  rw [hH2_, Heap.get_push, if_neg (by omega)]
  rw [hH1_, Heap.get_push, if_neg (by omega)]
theorem put_nil2 {op N : Int} {H : Heap} (hz : sizeV op = 2) : ACall Tryd.prog T20 40 #[.slice none 0 0, .agg #[.int .i64 op, .int .u32 N]] H fun r H' => ∃ B', r = .slice (some ⟨B', 0, none⟩) (2) (unk + 1) ∧ H'.get B' = some ⟨[by0 op, byN N 1], 5, false⟩ ∧ B' < H'.n ∧ H.n ≤ B' ∧ H.n ≤ H'.n ∧ ∀ b, b < H.n → H'.get b = H.get b := by
  refine acall_of' 30 (initTm 0 #[.slice none 0 0, .agg #[.int .i64 op, .int .u32 N]]) rfl f40_fn f40_body rfl rfl ?_
  rw [f40b_eq]
  refine aw_then ?_
  rw [f40ba_eq]
  refine aw_reg ?_
  obtain ⟨H1_, hH1_⟩ : ∃ x : Heap, x = H.push ⟨[Value.int .i64 op, .int .u32 N], 26, false⟩ := ⟨_, rfl⟩
  have nH1_ : H1_.n = H.n + 1 := by rw [hH1_]; rfl
  refine aops_val 3 (.pointer (some ⟨H.n, 0, none⟩)) H1_ (by kernel_rfl) (by kernel_rfl) (by kernel_rfl) ((by kernel_rfl : _ = some (Res.val (.pointer (some ⟨H.n, 0, none⟩)), H.push ⟨[Value.int .i64 op, .int .u32 N], 26, false⟩)).trans (by rw [← hH1_])) ?_
  refine aops_go 1 60 (by kernel_rfl) ?_
  refine aops_end (by kernel_rfl) (then_normal ?_)
  rw [f40bc_eq]
  refine aw_then ?_
  rw [f40bca_eq]
  refine aw_reg ?_
  refine aops_go 2 60 (by kernel_rfl) ?_
  have gH1_H_n : H1_.get (H.n) = some ⟨[Value.int .i64 op, .int .u32 N], 26, false⟩ := by rw [hH1_]; exact (Heap.get_push _ _ _).trans (if_pos rfl)
  refine aops_val 8 (.int .i64 op) H1_ (by kernel_rfl) (by kernel_rfl) (by kernel_rfl) ((by kernel_rfl : _ = val (aload T20 3 (.pointer (some ⟨H.n, 0, none⟩)) H1_) H1_).trans (val_of ((aload_at gH1_H_n).trans (by kernel_rfl)))) ?_
  refine aops_go 1 60 (by kernel_rfl) ?_
  obtain ⟨H2_, hH2_⟩ : ∃ x : Heap, x = H1_.push ⟨[(by0 op)], 5, false⟩ := ⟨_, rfl⟩
  have nH2_ : H2_.n = H1_.n + 1 := by rw [hH2_]; rfl
  refine aops_val 10 (.slice (some ⟨H1_.n, 0, none⟩) 1 1) H2_ (by kernel_rfl) (by kernel_rfl) (by kernel_rfl) ((by kernel_rfl : _ = some (Res.val (.slice (some ⟨H1_.n, 0, none⟩) 1 1), H1_.push ⟨[(by0 op)], 5, false⟩)).trans (by rw [← hH2_])) ?_
  have gH2_H1__n : H2_.get (H1_.n) = some ⟨[(by0 op)], 5, false⟩ := by rw [hH2_]; exact (Heap.get_push _ _ _).trans (if_pos rfl)
  obtain ⟨H3_, hH3_⟩ : ∃ x : Heap, x = H2_.push ⟨[(by0 op)], 5, false⟩ := ⟨_, rfl⟩
  have nH3_ : H3_.n = H2_.n + 1 := by rw [hH3_]; rfl
  refine aops_val 11 (.slice (some ⟨H2_.n, 0, none⟩) 1 (unk + 1)) H3_ (by kernel_rfl) (by kernel_rfl) (by kernel_rfl) ((by kernel_rfl : _ = val2 (aappend T20 27 27 (.slice none 0 0) (.slice (some ⟨H1_.n, 0, none⟩) 1 1) H2_)).trans (by rw [aappend_nil (e := 5) (xd := .slice 5) (s0 := 0) (by_ := 0) (z := .int .u8 0) (by kernel_rfl) (by kernel_rfl) rfl (by kernel_rfl) (by kernel_rfl) (by kernel_rfl) (asrc_blk (l := [(by0 op)]) gH2_H1__n rfl rfl) (by omega) (by omega), ← hH3_]; rfl)) ?_
  refine aops_go 1 60 (by kernel_rfl) ?_
  refine aops_end (by kernel_rfl) (then_normal ?_)
  rw [f40bcc_eq]
  refine aw_then ?_
  rw [f40bcca_eq]
  refine aw_then ?_
  rw [f40bccaa_eq]
  refine aw_reg ?_
  refine aops_go 1 60 (by kernel_rfl) ?_
  have gH3_H_n : H3_.get (H.n) = some ⟨[Value.int .i64 op, .int .u32 N], 26, false⟩ := by rw [hH3_, Heap.get_push, if_neg (by omega)]; rw [hH2_, Heap.get_push, if_neg (by omega)]; exact gH1_H_n
  refine aops_val 13 (.int .i64 op) H3_ (by kernel_rfl) (by kernel_rfl) (by kernel_rfl) ((by kernel_rfl : _ = val (aload T20 3 (.pointer (some ⟨H.n, 0, none⟩)) H3_) H3_).trans (val_of ((aload_at gH3_H_n).trans (by kernel_rfl)))) ?_
  refine aops_ask 14 (.int .i64 2) 15 #[.int .i64 op] (by kernel_rfl) (by kernel_rfl) (by kernel_rfl) (by kernel_rfl) (show some (Value.int .i64 (sizeV op)) = _ by rw [hz]) ?_
  refine aops_go 2 60 (by kernel_rfl) ?_
  refine aops_end (by kernel_rfl) (then_normal ?_)
  rw [f40bccac_eq]
  refine aw_block ?_
  rw [f40bccaca_eq]
  refine aw_loop_k fun K1_ hK1_ => ?_
  rw [f40bccacaa_eq]
  refine aw_then ?_
  rw [f40bccacaaa_eq]
  refine aw_reg ?_
  refine aops_go 1 60 (by kernel_rfl) ?_
  refine aops_end (by kernel_rfl) (then_normal ?_)
  rw [f40bccacaac_eq]
  refine aw_then ?_
  rw [f40bccacaaca_eq]
  refine aw_cond (t := true) (by kernel_rfl) ?_
  refine aw_skip (then_normal ?_)
  rw [f40bccacaacc_eq]
  refine aw_then ?_
  rw [f40bccacaacca_eq]
  refine aw_block ?_
  rw [f40bccacaaccaa_eq]
  refine aw_then ?_
  rw [f40bccacaaccaaa_eq]
  refine aw_reg ?_
  refine aops_go 2 60 (by kernel_rfl) ?_
  refine aops_end (by kernel_rfl) (then_normal ?_)
  rw [f40bccacaaccaac_eq]
  refine aw_reg ?_
  refine aops_go 2 60 (by kernel_rfl) ?_
  refine aops_val 21 (.int .u32 N) H3_ (by kernel_rfl) (by kernel_rfl) (by kernel_rfl) ((by kernel_rfl : _ = val (aload T20 22 (.pointer (some ⟨H.n, 1, none⟩)) H3_) H3_).trans (val_of ((aload_at gH3_H_n).trans (by kernel_rfl)))) ?_
  refine aops_go 4 60 (by kernel_rfl) ?_
  obtain ⟨H4_, hH4_⟩ : ∃ x : Heap, x = H3_.push ⟨[(byN N 1)], 5, false⟩ := ⟨_, rfl⟩
  have nH4_ : H4_.n = H3_.n + 1 := by rw [hH4_]; rfl
  refine aops_val 26 (.slice (some ⟨H3_.n, 0, none⟩) 1 1) H4_ (by kernel_rfl) (by kernel_rfl) (by kernel_rfl) ((by kernel_rfl : _ = some (Res.val (.slice (some ⟨H3_.n, 0, none⟩) 1 1), H3_.push ⟨[(byN N 1)], 5, false⟩)).trans (by rw [← hH4_])) ?_
  have gH4_H3__n : H4_.get (H3_.n) = some ⟨[(byN N 1)], 5, false⟩ := by rw [hH4_]; exact (Heap.get_push _ _ _).trans (if_pos rfl)
  have gH4_H2__n : H4_.get (H2_.n) = some ⟨[(by0 op)], 5, false⟩ := by rw [hH4_, Heap.get_push, if_neg (by omega)]; rw [hH3_]; exact (Heap.get_push _ _ _).trans (if_pos rfl)
  obtain ⟨H5_, hH5_⟩ : ∃ x : Heap, x = (H4_.kill (H2_.n)).push ⟨[(by0 op)] ++ [(byN N 1)], 5, false⟩ := ⟨_, rfl⟩
  have nH5_ : H5_.n = H4_.n + 1 := by rw [hH5_]; rfl
  refine aops_val 27 (.slice (some ⟨H4_.n, 0, none⟩) 2 (unk + 1)) H5_ (by kernel_rfl) (by kernel_rfl) (by kernel_rfl) ((by kernel_rfl : _ = val2 (aappend T20 27 27 (.slice (some ⟨H2_.n, 0, none⟩) 1 (unk + 1)) (.slice (some ⟨H3_.n, 0, none⟩) 1 1) H4_)).trans (by rw [aappend_grow (e := 5) (xd := .slice 5) (s0 := 0) (by_ := 0) (z := .int .u8 0) (by kernel_rfl) (by kernel_rfl) rfl (by kernel_rfl) (by kernel_rfl) (by kernel_rfl) gH4_H2__n rfl (asrc_blk (l := [(byN N 1)]) gH4_H3__n rfl rfl) rfl (by omega) (by intro h0; simp only [blockOf, Option.some.injEq] at h0; omega) (by omega), ← hH5_]; rfl)) ?_
  refine aops_go 1 60 (by kernel_rfl) ?_
  refine aops_end (by kernel_rfl) (blk_normal (then_normal ?_))
  rw [f40bccacaaccc_eq]
  refine aw_reg ?_
  refine aops_go 2 60 (by kernel_rfl) ?_
  refine aops_end (by kernel_rfl) (then_normal (hK1_ _ ?_))
  refine aw_loop_k fun K2_ hK2_ => ?_
  rw [f40bccacaa_eq]
  refine aw_then ?_
  rw [f40bccacaaa_eq]
  refine aw_reg ?_
  refine aops_go 1 60 (by kernel_rfl) ?_
  refine aops_end (by kernel_rfl) (then_normal ?_)
  rw [f40bccacaac_eq]
  refine aw_then ?_
  rw [f40bccacaaca_eq]
  refine aw_cond (t := false) (by kernel_rfl) ?_
  refine aw_exit (then_exit (then_exit (blk_hit (then_normal ?_))))
  rw [f40bccc_eq]
  refine aw_then ?_
  rw [f40bccca_eq]
  refine aw_reg ?_
  refine aops_go 2 60 (by kernel_rfl) ?_
  refine aops_end (by kernel_rfl) (then_normal ?_)
  refine aw_ret (bodyQ_ret_to (.slice (some ⟨H4_.n, 0, none⟩) 2 (unk + 1)) H5_ (by kernel_rfl) (by kernel_rfl) ?_)
  have gH5_H4__n : H5_.get (H4_.n) = some ⟨[(by0 op), (byN N 1)], 5, false⟩ := by rw [hH5_]; exact (Heap.get_push _ _ _).trans (if_pos rfl)
  refine ⟨H4_.n, rfl, by simpa using gH5_H4__n, by omega, by omega, by omega, fun b hb => ?_⟩
  rw [hH5_, Heap.get_push, Heap.n_kill, if_neg (by omega), Heap.get_kill, if_neg (by omega)]
  rw [hH4_, Heap.get_push, if_neg (by omega)]
  rw [hH3_, Heap.get_push, if_neg (by omega)]
  rw [hH2_, Heap.get_push, if_neg (by omega)]
  rw [hH1_, Heap.get_push, if_neg (by omega)]
theorem put_nil5 {op N : Int} {H : Heap} (hz : sizeV op = 5) : ACall Tryd.prog T20 40 #[.slice none 0 0, .agg #[.int .i64 op, .int .u32 N]] H fun r H' => ∃ B', r = .slice (some ⟨B', 0, none⟩) (5) (unk + 1) ∧ H'.get B' = some ⟨[by0 op, byN N 1, byN N 256, byN N 65536, byN N 16777216], 5, false⟩ ∧ B' < H'.n ∧ H.n ≤ B' ∧ H.n ≤ H'.n ∧ ∀ b, b < H.n → H'.get b = H.get b := by
  refine acall_of' 30 (initTm 0 #[.slice none 0 0, .agg #[.int .i64 op, .int .u32 N]]) rfl f40_fn f40_body rfl rfl ?_
  rw [f40b_eq]
  refine aw_then ?_
  rw [f40ba_eq]
  refine aw_reg ?_
  obtain ⟨H1_, hH1_⟩ : ∃ x : Heap, x = H.push ⟨[Value.int .i64 op, .int .u32 N], 26, false⟩ := ⟨_, rfl⟩
  have nH1_ : H1_.n = H.n + 1 := by rw [hH1_]; rfl
  refine aops_val 3 (.pointer (some ⟨H.n, 0, none⟩)) H1_ (by kernel_rfl) (by kernel_rfl) (by kernel_rfl) ((by kernel_rfl : _ = some (Res.val (.pointer (some ⟨H.n, 0, none⟩)), H.push ⟨[Value.int .i64 op, .int .u32 N], 26, false⟩)).trans (by rw [← hH1_])) ?_
  refine aops_go 1 60 (by kernel_rfl) ?_
  refine aops_end (by kernel_rfl) (then_normal ?_)
  rw [f40bc_eq]
  refine aw_then ?_
  rw [f40bca_eq]
  refine aw_reg ?_
  refine aops_go 2 60 (by kernel_rfl) ?_
  have gH1_H_n : H1_.get (H.n) = some ⟨[Value.int .i64 op, .int .u32 N], 26, false⟩ := by rw [hH1_]; exact (Heap.get_push _ _ _).trans (if_pos rfl)
  refine aops_val 8 (.int .i64 op) H1_ (by kernel_rfl) (by kernel_rfl) (by kernel_rfl) ((by kernel_rfl : _ = val (aload T20 3 (.pointer (some ⟨H.n, 0, none⟩)) H1_) H1_).trans (val_of ((aload_at gH1_H_n).trans (by kernel_rfl)))) ?_
  refine aops_go 1 60 (by kernel_rfl) ?_
  obtain ⟨H2_, hH2_⟩ : ∃ x : Heap, x = H1_.push ⟨[(by0 op)], 5, false⟩ := ⟨_, rfl⟩
  have nH2_ : H2_.n = H1_.n + 1 := by rw [hH2_]; rfl
  refine aops_val 10 (.slice (some ⟨H1_.n, 0, none⟩) 1 1) H2_ (by kernel_rfl) (by kernel_rfl) (by kernel_rfl) ((by kernel_rfl : _ = some (Res.val (.slice (some ⟨H1_.n, 0, none⟩) 1 1), H1_.push ⟨[(by0 op)], 5, false⟩)).trans (by rw [← hH2_])) ?_
  have gH2_H1__n : H2_.get (H1_.n) = some ⟨[(by0 op)], 5, false⟩ := by rw [hH2_]; exact (Heap.get_push _ _ _).trans (if_pos rfl)
  obtain ⟨H3_, hH3_⟩ : ∃ x : Heap, x = H2_.push ⟨[(by0 op)], 5, false⟩ := ⟨_, rfl⟩
  have nH3_ : H3_.n = H2_.n + 1 := by rw [hH3_]; rfl
  refine aops_val 11 (.slice (some ⟨H2_.n, 0, none⟩) 1 (unk + 1)) H3_ (by kernel_rfl) (by kernel_rfl) (by kernel_rfl) ((by kernel_rfl : _ = val2 (aappend T20 27 27 (.slice none 0 0) (.slice (some ⟨H1_.n, 0, none⟩) 1 1) H2_)).trans (by rw [aappend_nil (e := 5) (xd := .slice 5) (s0 := 0) (by_ := 0) (z := .int .u8 0) (by kernel_rfl) (by kernel_rfl) rfl (by kernel_rfl) (by kernel_rfl) (by kernel_rfl) (asrc_blk (l := [(by0 op)]) gH2_H1__n rfl rfl) (by omega) (by omega), ← hH3_]; rfl)) ?_
  refine aops_go 1 60 (by kernel_rfl) ?_
  refine aops_end (by kernel_rfl) (then_normal ?_)
  rw [f40bcc_eq]
  refine aw_then ?_
  rw [f40bcca_eq]
  refine aw_then ?_
  rw [f40bccaa_eq]
  refine aw_reg ?_
  refine aops_go 1 60 (by kernel_rfl) ?_
  have gH3_H_n : H3_.get (H.n) = some ⟨[Value.int .i64 op, .int .u32 N], 26, false⟩ := by rw [hH3_, Heap.get_push, if_neg (by omega)]; rw [hH2_, Heap.get_push, if_neg (by omega)]; exact gH1_H_n
  refine aops_val 13 (.int .i64 op) H3_ (by kernel_rfl) (by kernel_rfl) (by kernel_rfl) ((by kernel_rfl : _ = val (aload T20 3 (.pointer (some ⟨H.n, 0, none⟩)) H3_) H3_).trans (val_of ((aload_at gH3_H_n).trans (by kernel_rfl)))) ?_
  refine aops_ask 14 (.int .i64 5) 15 #[.int .i64 op] (by kernel_rfl) (by kernel_rfl) (by kernel_rfl) (by kernel_rfl) (show some (Value.int .i64 (sizeV op)) = _ by rw [hz]) ?_
  refine aops_go 2 60 (by kernel_rfl) ?_
  refine aops_end (by kernel_rfl) (then_normal ?_)
  rw [f40bccac_eq]
  refine aw_block ?_
  rw [f40bccaca_eq]
  refine aw_loop_k fun K1_ hK1_ => ?_
  rw [f40bccacaa_eq]
  refine aw_then ?_
  rw [f40bccacaaa_eq]
  refine aw_reg ?_
  refine aops_go 1 60 (by kernel_rfl) ?_
  refine aops_end (by kernel_rfl) (then_normal ?_)
  rw [f40bccacaac_eq]
  refine aw_then ?_
  rw [f40bccacaaca_eq]
  refine aw_cond (t := true) (by kernel_rfl) ?_
  refine aw_skip (then_normal ?_)
  rw [f40bccacaacc_eq]
  refine aw_then ?_
  rw [f40bccacaacca_eq]
  refine aw_block ?_
  rw [f40bccacaaccaa_eq]
  refine aw_then ?_
  rw [f40bccacaaccaaa_eq]
  refine aw_reg ?_
  refine aops_go 2 60 (by kernel_rfl) ?_
  refine aops_end (by kernel_rfl) (then_normal ?_)
  rw [f40bccacaaccaac_eq]
  refine aw_reg ?_
  refine aops_go 2 60 (by kernel_rfl) ?_
  refine aops_val 21 (.int .u32 N) H3_ (by kernel_rfl) (by kernel_rfl) (by kernel_rfl) ((by kernel_rfl : _ = val (aload T20 22 (.pointer (some ⟨H.n, 1, none⟩)) H3_) H3_).trans (val_of ((aload_at gH3_H_n).trans (by kernel_rfl)))) ?_
  refine aops_go 4 60 (by kernel_rfl) ?_
  obtain ⟨H4_, hH4_⟩ : ∃ x : Heap, x = H3_.push ⟨[(byN N 1)], 5, false⟩ := ⟨_, rfl⟩
  have nH4_ : H4_.n = H3_.n + 1 := by rw [hH4_]; rfl
  refine aops_val 26 (.slice (some ⟨H3_.n, 0, none⟩) 1 1) H4_ (by kernel_rfl) (by kernel_rfl) (by kernel_rfl) ((by kernel_rfl : _ = some (Res.val (.slice (some ⟨H3_.n, 0, none⟩) 1 1), H3_.push ⟨[(byN N 1)], 5, false⟩)).trans (by rw [← hH4_])) ?_
  have gH4_H3__n : H4_.get (H3_.n) = some ⟨[(byN N 1)], 5, false⟩ := by rw [hH4_]; exact (Heap.get_push _ _ _).trans (if_pos rfl)
  have gH4_H2__n : H4_.get (H2_.n) = some ⟨[(by0 op)], 5, false⟩ := by rw [hH4_, Heap.get_push, if_neg (by omega)]; rw [hH3_]; exact (Heap.get_push _ _ _).trans (if_pos rfl)
  obtain ⟨H5_, hH5_⟩ : ∃ x : Heap, x = (H4_.kill (H2_.n)).push ⟨[(by0 op)] ++ [(byN N 1)], 5, false⟩ := ⟨_, rfl⟩
  have nH5_ : H5_.n = H4_.n + 1 := by rw [hH5_]; rfl
  refine aops_val 27 (.slice (some ⟨H4_.n, 0, none⟩) 2 (unk + 1)) H5_ (by kernel_rfl) (by kernel_rfl) (by kernel_rfl) ((by kernel_rfl : _ = val2 (aappend T20 27 27 (.slice (some ⟨H2_.n, 0, none⟩) 1 (unk + 1)) (.slice (some ⟨H3_.n, 0, none⟩) 1 1) H4_)).trans (by rw [aappend_grow (e := 5) (xd := .slice 5) (s0 := 0) (by_ := 0) (z := .int .u8 0) (by kernel_rfl) (by kernel_rfl) rfl (by kernel_rfl) (by kernel_rfl) (by kernel_rfl) gH4_H2__n rfl (asrc_blk (l := [(byN N 1)]) gH4_H3__n rfl rfl) rfl (by omega) (by intro h0; simp only [blockOf, Option.some.injEq] at h0; omega) (by omega), ← hH5_]; rfl)) ?_
  refine aops_go 1 60 (by kernel_rfl) ?_
  refine aops_end (by kernel_rfl) (blk_normal (then_normal ?_))
  rw [f40bccacaaccc_eq]
  refine aw_reg ?_
  refine aops_go 2 60 (by kernel_rfl) ?_
  refine aops_end (by kernel_rfl) (then_normal (hK1_ _ ?_))
  refine aw_loop_k fun K2_ hK2_ => ?_
  rw [f40bccacaa_eq]
  refine aw_then ?_
  rw [f40bccacaaa_eq]
  refine aw_reg ?_
  refine aops_go 1 60 (by kernel_rfl) ?_
  refine aops_end (by kernel_rfl) (then_normal ?_)
  rw [f40bccacaac_eq]
  refine aw_then ?_
  rw [f40bccacaaca_eq]
  refine aw_cond (t := true) (by kernel_rfl) ?_
  refine aw_skip (then_normal ?_)
  rw [f40bccacaacc_eq]
  refine aw_then ?_
  rw [f40bccacaacca_eq]
  refine aw_block ?_
  rw [f40bccacaaccaa_eq]
  refine aw_then ?_
  rw [f40bccacaaccaaa_eq]
  refine aw_reg ?_
  refine aops_go 2 60 (by kernel_rfl) ?_
  refine aops_end (by kernel_rfl) (then_normal ?_)
  rw [f40bccacaaccaac_eq]
  refine aw_reg ?_
  refine aops_go 2 60 (by kernel_rfl) ?_
  have gH5_H_n : H5_.get (H.n) = some ⟨[Value.int .i64 op, .int .u32 N], 26, false⟩ := by rw [hH5_, Heap.get_push, Heap.n_kill, if_neg (by omega), Heap.get_kill, if_neg (by omega)]; rw [hH4_, Heap.get_push, if_neg (by omega)]; exact gH3_H_n
  refine aops_val 21 (.int .u32 N) H5_ (by kernel_rfl) (by kernel_rfl) (by kernel_rfl) ((by kernel_rfl : _ = val (aload T20 22 (.pointer (some ⟨H.n, 1, none⟩)) H5_) H5_).trans (val_of ((aload_at gH5_H_n).trans (by kernel_rfl)))) ?_
  refine aops_go 4 60 (by kernel_rfl) ?_
  obtain ⟨H6_, hH6_⟩ : ∃ x : Heap, x = H5_.push ⟨[(byN N 256)], 5, false⟩ := ⟨_, rfl⟩
  have nH6_ : H6_.n = H5_.n + 1 := by rw [hH6_]; rfl
  refine aops_val 26 (.slice (some ⟨H5_.n, 0, none⟩) 1 1) H6_ (by kernel_rfl) (by kernel_rfl) (by kernel_rfl) ((by kernel_rfl : _ = some (Res.val (.slice (some ⟨H5_.n, 0, none⟩) 1 1), H5_.push ⟨[(byN N 256)], 5, false⟩)).trans (by rw [← hH6_])) ?_
  have gH6_H5__n : H6_.get (H5_.n) = some ⟨[(byN N 256)], 5, false⟩ := by rw [hH6_]; exact (Heap.get_push _ _ _).trans (if_pos rfl)
  have gH6_H4__n : H6_.get (H4_.n) = some ⟨[(by0 op), (byN N 1)], 5, false⟩ := by rw [hH6_, Heap.get_push, if_neg (by omega)]; rw [hH5_]; exact (Heap.get_push _ _ _).trans (if_pos rfl)
  obtain ⟨H7_, hH7_⟩ : ∃ x : Heap, x = (H6_.kill (H4_.n)).push ⟨[(by0 op), (byN N 1)] ++ [(byN N 256)], 5, false⟩ := ⟨_, rfl⟩
  have nH7_ : H7_.n = H6_.n + 1 := by rw [hH7_]; rfl
  refine aops_val 27 (.slice (some ⟨H6_.n, 0, none⟩) 3 (unk + 1)) H7_ (by kernel_rfl) (by kernel_rfl) (by kernel_rfl) ((by kernel_rfl : _ = val2 (aappend T20 27 27 (.slice (some ⟨H4_.n, 0, none⟩) 2 (unk + 1)) (.slice (some ⟨H5_.n, 0, none⟩) 1 1) H6_)).trans (by rw [aappend_grow (e := 5) (xd := .slice 5) (s0 := 0) (by_ := 0) (z := .int .u8 0) (by kernel_rfl) (by kernel_rfl) rfl (by kernel_rfl) (by kernel_rfl) (by kernel_rfl) gH6_H4__n rfl (asrc_blk (l := [(byN N 256)]) gH6_H5__n rfl rfl) rfl (by omega) (by intro h0; simp only [blockOf, Option.some.injEq] at h0; omega) (by omega), ← hH7_]; rfl)) ?_
  refine aops_go 1 60 (by kernel_rfl) ?_
  refine aops_end (by kernel_rfl) (blk_normal (then_normal ?_))
  rw [f40bccacaaccc_eq]
  refine aw_reg ?_
  refine aops_go 2 60 (by kernel_rfl) ?_
  refine aops_end (by kernel_rfl) (then_normal (hK2_ _ ?_))
  refine aw_loop_k fun K3_ hK3_ => ?_
  rw [f40bccacaa_eq]
  refine aw_then ?_
  rw [f40bccacaaa_eq]
  refine aw_reg ?_
  refine aops_go 1 60 (by kernel_rfl) ?_
  refine aops_end (by kernel_rfl) (then_normal ?_)
  rw [f40bccacaac_eq]
  refine aw_then ?_
  rw [f40bccacaaca_eq]
  refine aw_cond (t := true) (by kernel_rfl) ?_
  refine aw_skip (then_normal ?_)
  rw [f40bccacaacc_eq]
  refine aw_then ?_
  rw [f40bccacaacca_eq]
  refine aw_block ?_
  rw [f40bccacaaccaa_eq]
  refine aw_then ?_
  rw [f40bccacaaccaaa_eq]
  refine aw_reg ?_
  refine aops_go 2 60 (by kernel_rfl) ?_
  refine aops_end (by kernel_rfl) (then_normal ?_)
  rw [f40bccacaaccaac_eq]
  refine aw_reg ?_
  refine aops_go 2 60 (by kernel_rfl) ?_
  have gH7_H_n : H7_.get (H.n) = some ⟨[Value.int .i64 op, .int .u32 N], 26, false⟩ := by rw [hH7_, Heap.get_push, Heap.n_kill, if_neg (by omega), Heap.get_kill, if_neg (by omega)]; rw [hH6_, Heap.get_push, if_neg (by omega)]; exact gH5_H_n
  refine aops_val 21 (.int .u32 N) H7_ (by kernel_rfl) (by kernel_rfl) (by kernel_rfl) ((by kernel_rfl : _ = val (aload T20 22 (.pointer (some ⟨H.n, 1, none⟩)) H7_) H7_).trans (val_of ((aload_at gH7_H_n).trans (by kernel_rfl)))) ?_
  refine aops_go 4 60 (by kernel_rfl) ?_
  obtain ⟨H8_, hH8_⟩ : ∃ x : Heap, x = H7_.push ⟨[(byN N 65536)], 5, false⟩ := ⟨_, rfl⟩
  have nH8_ : H8_.n = H7_.n + 1 := by rw [hH8_]; rfl
  refine aops_val 26 (.slice (some ⟨H7_.n, 0, none⟩) 1 1) H8_ (by kernel_rfl) (by kernel_rfl) (by kernel_rfl) ((by kernel_rfl : _ = some (Res.val (.slice (some ⟨H7_.n, 0, none⟩) 1 1), H7_.push ⟨[(byN N 65536)], 5, false⟩)).trans (by rw [← hH8_])) ?_
  have gH8_H7__n : H8_.get (H7_.n) = some ⟨[(byN N 65536)], 5, false⟩ := by rw [hH8_]; exact (Heap.get_push _ _ _).trans (if_pos rfl)
  have gH8_H6__n : H8_.get (H6_.n) = some ⟨[(by0 op), (byN N 1), (byN N 256)], 5, false⟩ := by rw [hH8_, Heap.get_push, if_neg (by omega)]; rw [hH7_]; exact (Heap.get_push _ _ _).trans (if_pos rfl)
  obtain ⟨H9_, hH9_⟩ : ∃ x : Heap, x = (H8_.kill (H6_.n)).push ⟨[(by0 op), (byN N 1), (byN N 256)] ++ [(byN N 65536)], 5, false⟩ := ⟨_, rfl⟩
  have nH9_ : H9_.n = H8_.n + 1 := by rw [hH9_]; rfl
  refine aops_val 27 (.slice (some ⟨H8_.n, 0, none⟩) 4 (unk + 1)) H9_ (by kernel_rfl) (by kernel_rfl) (by kernel_rfl) ((by kernel_rfl : _ = val2 (aappend T20 27 27 (.slice (some ⟨H6_.n, 0, none⟩) 3 (unk + 1)) (.slice (some ⟨H7_.n, 0, none⟩) 1 1) H8_)).trans (by rw [aappend_grow (e := 5) (xd := .slice 5) (s0 := 0) (by_ := 0) (z := .int .u8 0) (by kernel_rfl) (by kernel_rfl) rfl (by kernel_rfl) (by kernel_rfl) (by kernel_rfl) gH8_H6__n rfl (asrc_blk (l := [(byN N 65536)]) gH8_H7__n rfl rfl) rfl (by omega) (by intro h0; simp only [blockOf, Option.some.injEq] at h0; omega) (by omega), ← hH9_]; rfl)) ?_
  refine aops_go 1 60 (by kernel_rfl) ?_
  refine aops_end (by kernel_rfl) (blk_normal (then_normal ?_))
  rw [f40bccacaaccc_eq]
  refine aw_reg ?_
  refine aops_go 2 60 (by kernel_rfl) ?_
  refine aops_end (by kernel_rfl) (then_normal (hK3_ _ ?_))
  refine aw_loop_k fun K4_ hK4_ => ?_
  rw [f40bccacaa_eq]
  refine aw_then ?_
  rw [f40bccacaaa_eq]
  refine aw_reg ?_
  refine aops_go 1 60 (by kernel_rfl) ?_
  refine aops_end (by kernel_rfl) (then_normal ?_)
  rw [f40bccacaac_eq]
  refine aw_then ?_
  rw [f40bccacaaca_eq]
  refine aw_cond (t := true) (by kernel_rfl) ?_
  refine aw_skip (then_normal ?_)
  rw [f40bccacaacc_eq]
  refine aw_then ?_
  rw [f40bccacaacca_eq]
  refine aw_block ?_
  rw [f40bccacaaccaa_eq]
  refine aw_then ?_
  rw [f40bccacaaccaaa_eq]
  refine aw_reg ?_
  refine aops_go 2 60 (by kernel_rfl) ?_
  refine aops_end (by kernel_rfl) (then_normal ?_)
  rw [f40bccacaaccaac_eq]
  refine aw_reg ?_
  refine aops_go 2 60 (by kernel_rfl) ?_
  have gH9_H_n : H9_.get (H.n) = some ⟨[Value.int .i64 op, .int .u32 N], 26, false⟩ := by rw [hH9_, Heap.get_push, Heap.n_kill, if_neg (by omega), Heap.get_kill, if_neg (by omega)]; rw [hH8_, Heap.get_push, if_neg (by omega)]; exact gH7_H_n
  refine aops_val 21 (.int .u32 N) H9_ (by kernel_rfl) (by kernel_rfl) (by kernel_rfl) ((by kernel_rfl : _ = val (aload T20 22 (.pointer (some ⟨H.n, 1, none⟩)) H9_) H9_).trans (val_of ((aload_at gH9_H_n).trans (by kernel_rfl)))) ?_
  refine aops_go 4 60 (by kernel_rfl) ?_
  obtain ⟨H10_, hH10_⟩ : ∃ x : Heap, x = H9_.push ⟨[(byN N 16777216)], 5, false⟩ := ⟨_, rfl⟩
  have nH10_ : H10_.n = H9_.n + 1 := by rw [hH10_]; rfl
  refine aops_val 26 (.slice (some ⟨H9_.n, 0, none⟩) 1 1) H10_ (by kernel_rfl) (by kernel_rfl) (by kernel_rfl) ((by kernel_rfl : _ = some (Res.val (.slice (some ⟨H9_.n, 0, none⟩) 1 1), H9_.push ⟨[(byN N 16777216)], 5, false⟩)).trans (by rw [← hH10_])) ?_
  have gH10_H9__n : H10_.get (H9_.n) = some ⟨[(byN N 16777216)], 5, false⟩ := by rw [hH10_]; exact (Heap.get_push _ _ _).trans (if_pos rfl)
  have gH10_H8__n : H10_.get (H8_.n) = some ⟨[(by0 op), (byN N 1), (byN N 256), (byN N 65536)], 5, false⟩ := by rw [hH10_, Heap.get_push, if_neg (by omega)]; rw [hH9_]; exact (Heap.get_push _ _ _).trans (if_pos rfl)
  obtain ⟨H11_, hH11_⟩ : ∃ x : Heap, x = (H10_.kill (H8_.n)).push ⟨[(by0 op), (byN N 1), (byN N 256), (byN N 65536)] ++ [(byN N 16777216)], 5, false⟩ := ⟨_, rfl⟩
  have nH11_ : H11_.n = H10_.n + 1 := by rw [hH11_]; rfl
  refine aops_val 27 (.slice (some ⟨H10_.n, 0, none⟩) 5 (unk + 1)) H11_ (by kernel_rfl) (by kernel_rfl) (by kernel_rfl) ((by kernel_rfl : _ = val2 (aappend T20 27 27 (.slice (some ⟨H8_.n, 0, none⟩) 4 (unk + 1)) (.slice (some ⟨H9_.n, 0, none⟩) 1 1) H10_)).trans (by rw [aappend_grow (e := 5) (xd := .slice 5) (s0 := 0) (by_ := 0) (z := .int .u8 0) (by kernel_rfl) (by kernel_rfl) rfl (by kernel_rfl) (by kernel_rfl) (by kernel_rfl) gH10_H8__n rfl (asrc_blk (l := [(byN N 16777216)]) gH10_H9__n rfl rfl) rfl (by omega) (by intro h0; simp only [blockOf, Option.some.injEq] at h0; omega) (by omega), ← hH11_]; rfl)) ?_
  refine aops_go 1 60 (by kernel_rfl) ?_
  refine aops_end (by kernel_rfl) (blk_normal (then_normal ?_))
  rw [f40bccacaaccc_eq]
  refine aw_reg ?_
  refine aops_go 2 60 (by kernel_rfl) ?_
  refine aops_end (by kernel_rfl) (then_normal (hK4_ _ ?_))
  refine aw_loop_k fun K5_ hK5_ => ?_
  rw [f40bccacaa_eq]
  refine aw_then ?_
  rw [f40bccacaaa_eq]
  refine aw_reg ?_
  refine aops_go 1 60 (by kernel_rfl) ?_
  refine aops_end (by kernel_rfl) (then_normal ?_)
  rw [f40bccacaac_eq]
  refine aw_then ?_
  rw [f40bccacaaca_eq]
  refine aw_cond (t := false) (by kernel_rfl) ?_
  refine aw_exit (then_exit (then_exit (blk_hit (then_normal ?_))))
  rw [f40bccc_eq]
  refine aw_then ?_
  rw [f40bccca_eq]
  refine aw_reg ?_
  refine aops_go 2 60 (by kernel_rfl) ?_
  refine aops_end (by kernel_rfl) (then_normal ?_)
  refine aw_ret (bodyQ_ret_to (.slice (some ⟨H10_.n, 0, none⟩) 5 (unk + 1)) H11_ (by kernel_rfl) (by kernel_rfl) ?_)
  have gH11_H10__n : H11_.get (H10_.n) = some ⟨[(by0 op), (byN N 1), (byN N 256), (byN N 65536), (byN N 16777216)], 5, false⟩ := by rw [hH11_]; exact (Heap.get_push _ _ _).trans (if_pos rfl)
  refine ⟨H10_.n, rfl, by simpa using gH11_H10__n, by omega, by omega, by omega, fun b hb => ?_⟩
  rw [hH11_, Heap.get_push, Heap.n_kill, if_neg (by omega), Heap.get_kill, if_neg (by omega)]
  rw [hH10_, Heap.get_push, if_neg (by omega)]
  rw [hH9_, Heap.get_push, Heap.n_kill, if_neg (by omega), Heap.get_kill, if_neg (by omega)]
  rw [hH8_, Heap.get_push, if_neg (by omega)]
  rw [hH7_, Heap.get_push, Heap.n_kill, if_neg (by omega), Heap.get_kill, if_neg (by omega)]
  rw [hH6_, Heap.get_push, if_neg (by omega)]
  rw [hH5_, Heap.get_push, Heap.n_kill, if_neg (by omega), Heap.get_kill, if_neg (by omega)]
  rw [hH4_, Heap.get_push, if_neg (by omega)]
  rw [hH3_, Heap.get_push, if_neg (by omega)]
  rw [hH2_, Heap.get_push, if_neg (by omega)]
  rw [hH1_, Heap.get_push, if_neg (by omega)]
theorem put_own1 {op N : Int} {H : Heap} {B len : Nat} {xs : List Value} (g : H.get B = some ⟨xs, 5, false⟩) (hB : B < H.n) (hxs : xs.length = len) (hl : len ≤ 1000000000) (hz : sizeV op = 1) : ACall Tryd.prog T20 40 #[.slice (some ⟨B, 0, none⟩) len (unk + 1), .agg #[.int .i64 op, .int .u32 N]] H fun r H' => ∃ B', r = .slice (some ⟨B', 0, none⟩) (len + 1) (unk + 1) ∧ H'.get B' = some ⟨xs ++ [by0 op], 5, false⟩ ∧ B' < H'.n ∧ H.n ≤ B' ∧ H.n ≤ H'.n ∧ ∀ b, b < H.n → b ≠ B → H'.get b = H.get b := by
  refine acall_of' 30 (initTm 0 #[.slice (some ⟨B, 0, none⟩) len (unk + 1), .agg #[.int .i64 op, .int .u32 N]]) rfl f40_fn f40_body rfl rfl ?_
  rw [f40b_eq]
  refine aw_then ?_
  rw [f40ba_eq]
  refine aw_reg ?_
  obtain ⟨H1_, hH1_⟩ : ∃ x : Heap, x = H.push ⟨[Value.int .i64 op, .int .u32 N], 26, false⟩ := ⟨_, rfl⟩
  have nH1_ : H1_.n = H.n + 1 := by rw [hH1_]; rfl
  refine aops_val 3 (.pointer (some ⟨H.n, 0, none⟩)) H1_ (by kernel_rfl) (by kernel_rfl) (by kernel_rfl) ((by kernel_rfl : _ = some (Res.val (.pointer (some ⟨H.n, 0, none⟩)), H.push ⟨[Value.int .i64 op, .int .u32 N], 26, false⟩)).trans (by rw [← hH1_])) ?_
  refine aops_go 1 60 (by kernel_rfl) ?_
  refine aops_end (by kernel_rfl) (then_normal ?_)
  rw [f40bc_eq]
  refine aw_then ?_
  rw [f40bca_eq]
  refine aw_reg ?_
  refine aops_go 2 60 (by kernel_rfl) ?_
  have gH1_H_n : H1_.get (H.n) = some ⟨[Value.int .i64 op, .int .u32 N], 26, false⟩ := by rw [hH1_]; exact (Heap.get_push _ _ _).trans (if_pos rfl)
  refine aops_val 8 (.int .i64 op) H1_ (by kernel_rfl) (by kernel_rfl) (by kernel_rfl) ((by kernel_rfl : _ = val (aload T20 3 (.pointer (some ⟨H.n, 0, none⟩)) H1_) H1_).trans (val_of ((aload_at gH1_H_n).trans (by kernel_rfl)))) ?_
  refine aops_go 1 60 (by kernel_rfl) ?_
  obtain ⟨H2_, hH2_⟩ : ∃ x : Heap, x = H1_.push ⟨[(by0 op)], 5, false⟩ := ⟨_, rfl⟩
  have nH2_ : H2_.n = H1_.n + 1 := by rw [hH2_]; rfl
  refine aops_val 10 (.slice (some ⟨H1_.n, 0, none⟩) 1 1) H2_ (by kernel_rfl) (by kernel_rfl) (by kernel_rfl) ((by kernel_rfl : _ = some (Res.val (.slice (some ⟨H1_.n, 0, none⟩) 1 1), H1_.push ⟨[(by0 op)], 5, false⟩)).trans (by rw [← hH2_])) ?_
  have gH2_H1__n : H2_.get (H1_.n) = some ⟨[(by0 op)], 5, false⟩ := by rw [hH2_]; exact (Heap.get_push _ _ _).trans (if_pos rfl)
  have gH2_B : H2_.get (B) = some ⟨xs, 5, false⟩ := by rw [hH2_, Heap.get_push, if_neg (by omega)]; rw [hH1_, Heap.get_push, if_neg (by omega)]; exact g
  obtain ⟨H3_, hH3_⟩ : ∃ x : Heap, x = (H2_.kill (B)).push ⟨xs ++ [(by0 op)], 5, false⟩ := ⟨_, rfl⟩
  have nH3_ : H3_.n = H2_.n + 1 := by rw [hH3_]; rfl
  refine aops_val 11 (.slice (some ⟨H2_.n, 0, none⟩) (len + 1) (unk + 1)) H3_ (by kernel_rfl) (by kernel_rfl) (by kernel_rfl) ((by kernel_rfl : _ = val2 (aappend T20 27 27 (.slice (some ⟨B, 0, none⟩) len (unk + 1)) (.slice (some ⟨H1_.n, 0, none⟩) 1 1) H2_)).trans (by rw [aappend_grow (e := 5) (xd := .slice 5) (s0 := 0) (by_ := 0) (z := .int .u8 0) (by kernel_rfl) (by kernel_rfl) rfl (by kernel_rfl) (by kernel_rfl) (by kernel_rfl) gH2_B (by first | omega | (simp only [List.length_append, List.length_cons, List.length_nil]; omega)) (asrc_blk (l := [(by0 op)]) gH2_H1__n rfl rfl) rfl (by omega) (by intro h0; simp only [blockOf, Option.some.injEq] at h0; omega) (by omega), ← hH3_]; rfl)) ?_
  refine aops_go 1 60 (by kernel_rfl) ?_
  refine aops_end (by kernel_rfl) (then_normal ?_)
  rw [f40bcc_eq]
  refine aw_then ?_
  rw [f40bcca_eq]
  refine aw_then ?_
  rw [f40bccaa_eq]
  refine aw_reg ?_
  refine aops_go 1 60 (by kernel_rfl) ?_
  have gH3_H_n : H3_.get (H.n) = some ⟨[Value.int .i64 op, .int .u32 N], 26, false⟩ := by rw [hH3_, Heap.get_push, Heap.n_kill, if_neg (by omega), Heap.get_kill, if_neg (by omega)]; rw [hH2_, Heap.get_push, if_neg (by omega)]; exact gH1_H_n
  refine aops_val 13 (.int .i64 op) H3_ (by kernel_rfl) (by kernel_rfl) (by kernel_rfl) ((by kernel_rfl : _ = val (aload T20 3 (.pointer (some ⟨H.n, 0, none⟩)) H3_) H3_).trans (val_of ((aload_at gH3_H_n).trans (by kernel_rfl)))) ?_
  refine aops_ask 14 (.int .i64 1) 15 #[.int .i64 op] (by kernel_rfl) (by kernel_rfl) (by kernel_rfl) (by kernel_rfl) (show some (Value.int .i64 (sizeV op)) = _ by rw [hz]) ?_
  refine aops_go 2 60 (by kernel_rfl) ?_
  refine aops_end (by kernel_rfl) (then_normal ?_)
  rw [f40bccac_eq]
  refine aw_block ?_
  rw [f40bccaca_eq]
  refine aw_loop_k fun K1_ hK1_ => ?_
  rw [f40bccacaa_eq]
  refine aw_then ?_
  rw [f40bccacaaa_eq]
  refine aw_reg ?_
  refine aops_go 1 60 (by kernel_rfl) ?_
  refine aops_end (by kernel_rfl) (then_normal ?_)
  rw [f40bccacaac_eq]
  refine aw_then ?_
  rw [f40bccacaaca_eq]
  refine aw_cond (t := false) (by kernel_rfl) ?_
  refine aw_exit (then_exit (then_exit (blk_hit (then_normal ?_))))
  rw [f40bccc_eq]
  refine aw_then ?_
  rw [f40bccca_eq]
  refine aw_reg ?_
  refine aops_go 2 60 (by kernel_rfl) ?_
  refine aops_end (by kernel_rfl) (then_normal ?_)
  refine aw_ret (bodyQ_ret_to (.slice (some ⟨H2_.n, 0, none⟩) (len + 1) (unk + 1)) H3_ (by kernel_rfl) (by kernel_rfl) ?_)
  have gH3_H2__n : H3_.get (H2_.n) = some ⟨(xs ++ [(by0 op)]), 5, false⟩ := by rw [hH3_]; exact (Heap.get_push _ _ _).trans (if_pos rfl)
  refine ⟨H2_.n, rfl, by simpa using gH3_H2__n, by omega, by omega, by omega, fun b hb hb2 => ?_⟩
  rw [hH3_, Heap.get_push, Heap.n_kill, if_neg (by omega), Heap.get_kill, if_neg (by omega)]
  rw [hH2_, Heap.get_push, if_neg (by omega)]
  rw [hH1_, Heap.get_push, if_neg (by omega)]
theorem put_own2 {op N : Int} {H : Heap} {B len : Nat} {xs : List Value} (g : H.get B = some ⟨xs, 5, false⟩) (hB : B < H.n) (hxs : xs.length = len) (hl : len ≤ 1000000000) (hz : sizeV op = 2) : ACall Tryd.prog T20 40 #[.slice (some ⟨B, 0, none⟩) len (unk + 1), .agg #[.int .i64 op, .int .u32 N]] H fun r H' => ∃ B', r = .slice (some ⟨B', 0, none⟩) (len + 2) (unk + 1) ∧ H'.get B' = some ⟨xs ++ [by0 op, byN N 1], 5, false⟩ ∧ B' < H'.n ∧ H.n ≤ B' ∧ H.n ≤ H'.n ∧ ∀ b, b < H.n → b ≠ B → H'.get b = H.get b := by
  refine acall_of' 30 (initTm 0 #[.slice (some ⟨B, 0, none⟩) len (unk + 1), .agg #[.int .i64 op, .int .u32 N]]) rfl f40_fn f40_body rfl rfl ?_
  rw [f40b_eq]
  refine aw_then ?_
  rw [f40ba_eq]
  refine aw_reg ?_
  obtain ⟨H1_, hH1_⟩ : ∃ x : Heap, x = H.push ⟨[Value.int .i64 op, .int .u32 N], 26, false⟩ := ⟨_, rfl⟩
  have nH1_ : H1_.n = H.n + 1 := by rw [hH1_]; rfl
  refine aops_val 3 (.pointer (some ⟨H.n, 0, none⟩)) H1_ (by kernel_rfl) (by kernel_rfl) (by kernel_rfl) ((by kernel_rfl : _ = some (Res.val (.pointer (some ⟨H.n, 0, none⟩)), H.push ⟨[Value.int .i64 op, .int .u32 N], 26, false⟩)).trans (by rw [← hH1_])) ?_
  refine aops_go 1 60 (by kernel_rfl) ?_
  refine aops_end (by kernel_rfl) (then_normal ?_)
  rw [f40bc_eq]
  refine aw_then ?_
  rw [f40bca_eq]
  refine aw_reg ?_
  refine aops_go 2 60 (by kernel_rfl) ?_
  have gH1_H_n : H1_.get (H.n) = some ⟨[Value.int .i64 op, .int .u32 N], 26, false⟩ := by rw [hH1_]; exact (Heap.get_push _ _ _).trans (if_pos rfl)
  refine aops_val 8 (.int .i64 op) H1_ (by kernel_rfl) (by kernel_rfl) (by kernel_rfl) ((by kernel_rfl : _ = val (aload T20 3 (.pointer (some ⟨H.n, 0, none⟩)) H1_) H1_).trans (val_of ((aload_at gH1_H_n).trans (by kernel_rfl)))) ?_
  refine aops_go 1 60 (by kernel_rfl) ?_
  obtain ⟨H2_, hH2_⟩ : ∃ x : Heap, x = H1_.push ⟨[(by0 op)], 5, false⟩ := ⟨_, rfl⟩
  have nH2_ : H2_.n = H1_.n + 1 := by rw [hH2_]; rfl
  refine aops_val 10 (.slice (some ⟨H1_.n, 0, none⟩) 1 1) H2_ (by kernel_rfl) (by kernel_rfl) (by kernel_rfl) ((by kernel_rfl : _ = some (Res.val (.slice (some ⟨H1_.n, 0, none⟩) 1 1), H1_.push ⟨[(by0 op)], 5, false⟩)).trans (by rw [← hH2_])) ?_
  have gH2_H1__n : H2_.get (H1_.n) = some ⟨[(by0 op)], 5, false⟩ := by rw [hH2_]; exact (Heap.get_push _ _ _).trans (if_pos rfl)
  have gH2_B : H2_.get (B) = some ⟨xs, 5, false⟩ := by rw [hH2_, Heap.get_push, if_neg (by omega)]; rw [hH1_, Heap.get_push, if_neg (by omega)]; exact g
  obtain ⟨H3_, hH3_⟩ : ∃ x : Heap, x = (H2_.kill (B)).push ⟨xs ++ [(by0 op)], 5, false⟩ := ⟨_, rfl⟩
  have nH3_ : H3_.n = H2_.n + 1 := by rw [hH3_]; rfl
  refine aops_val 11 (.slice (some ⟨H2_.n, 0, none⟩) (len + 1) (unk + 1)) H3_ (by kernel_rfl) (by kernel_rfl) (by kernel_rfl) ((by kernel_rfl : _ = val2 (aappend T20 27 27 (.slice (some ⟨B, 0, none⟩) len (unk + 1)) (.slice (some ⟨H1_.n, 0, none⟩) 1 1) H2_)).trans (by rw [aappend_grow (e := 5) (xd := .slice 5) (s0 := 0) (by_ := 0) (z := .int .u8 0) (by kernel_rfl) (by kernel_rfl) rfl (by kernel_rfl) (by kernel_rfl) (by kernel_rfl) gH2_B (by first | omega | (simp only [List.length_append, List.length_cons, List.length_nil]; omega)) (asrc_blk (l := [(by0 op)]) gH2_H1__n rfl rfl) rfl (by omega) (by intro h0; simp only [blockOf, Option.some.injEq] at h0; omega) (by omega), ← hH3_]; rfl)) ?_
  refine aops_go 1 60 (by kernel_rfl) ?_
  refine aops_end (by kernel_rfl) (then_normal ?_)
  rw [f40bcc_eq]
  refine aw_then ?_
  rw [f40bcca_eq]
  refine aw_then ?_
  rw [f40bccaa_eq]
  refine aw_reg ?_
  refine aops_go 1 60 (by kernel_rfl) ?_
  have gH3_H_n : H3_.get (H.n) = some ⟨[Value.int .i64 op, .int .u32 N], 26, false⟩ := by rw [hH3_, Heap.get_push, Heap.n_kill, if_neg (by omega), Heap.get_kill, if_neg (by omega)]; rw [hH2_, Heap.get_push, if_neg (by omega)]; exact gH1_H_n
  refine aops_val 13 (.int .i64 op) H3_ (by kernel_rfl) (by kernel_rfl) (by kernel_rfl) ((by kernel_rfl : _ = val (aload T20 3 (.pointer (some ⟨H.n, 0, none⟩)) H3_) H3_).trans (val_of ((aload_at gH3_H_n).trans (by kernel_rfl)))) ?_
  refine aops_ask 14 (.int .i64 2) 15 #[.int .i64 op] (by kernel_rfl) (by kernel_rfl) (by kernel_rfl) (by kernel_rfl) (show some (Value.int .i64 (sizeV op)) = _ by rw [hz]) ?_
  refine aops_go 2 60 (by kernel_rfl) ?_
  refine aops_end (by kernel_rfl) (then_normal ?_)
  rw [f40bccac_eq]
  refine aw_block ?_
  rw [f40bccaca_eq]
  refine aw_loop_k fun K1_ hK1_ => ?_
  rw [f40bccacaa_eq]
  refine aw_then ?_
  rw [f40bccacaaa_eq]
  refine aw_reg ?_
  refine aops_go 1 60 (by kernel_rfl) ?_
  refine aops_end (by kernel_rfl) (then_normal ?_)
  rw [f40bccacaac_eq]
  refine aw_then ?_
  rw [f40bccacaaca_eq]
  refine aw_cond (t := true) (by kernel_rfl) ?_
  refine aw_skip (then_normal ?_)
  rw [f40bccacaacc_eq]
  refine aw_then ?_
  rw [f40bccacaacca_eq]
  refine aw_block ?_
  rw [f40bccacaaccaa_eq]
  refine aw_then ?_
  rw [f40bccacaaccaaa_eq]
  refine aw_reg ?_
  refine aops_go 2 60 (by kernel_rfl) ?_
  refine aops_end (by kernel_rfl) (then_normal ?_)
  rw [f40bccacaaccaac_eq]
  refine aw_reg ?_
  refine aops_go 2 60 (by kernel_rfl) ?_
  refine aops_val 21 (.int .u32 N) H3_ (by kernel_rfl) (by kernel_rfl) (by kernel_rfl) ((by kernel_rfl : _ = val (aload T20 22 (.pointer (some ⟨H.n, 1, none⟩)) H3_) H3_).trans (val_of ((aload_at gH3_H_n).trans (by kernel_rfl)))) ?_
  refine aops_go 4 60 (by kernel_rfl) ?_
  obtain ⟨H4_, hH4_⟩ : ∃ x : Heap, x = H3_.push ⟨[(byN N 1)], 5, false⟩ := ⟨_, rfl⟩
  have nH4_ : H4_.n = H3_.n + 1 := by rw [hH4_]; rfl
  refine aops_val 26 (.slice (some ⟨H3_.n, 0, none⟩) 1 1) H4_ (by kernel_rfl) (by kernel_rfl) (by kernel_rfl) ((by kernel_rfl : _ = some (Res.val (.slice (some ⟨H3_.n, 0, none⟩) 1 1), H3_.push ⟨[(byN N 1)], 5, false⟩)).trans (by rw [← hH4_])) ?_
  have gH4_H3__n : H4_.get (H3_.n) = some ⟨[(byN N 1)], 5, false⟩ := by rw [hH4_]; exact (Heap.get_push _ _ _).trans (if_pos rfl)
  have gH4_H2__n : H4_.get (H2_.n) = some ⟨(xs ++ [(by0 op)]), 5, false⟩ := by rw [hH4_, Heap.get_push, if_neg (by omega)]; rw [hH3_]; exact (Heap.get_push _ _ _).trans (if_pos rfl)
  obtain ⟨H5_, hH5_⟩ : ∃ x : Heap, x = (H4_.kill (H2_.n)).push ⟨(xs ++ [(by0 op)]) ++ [(byN N 1)], 5, false⟩ := ⟨_, rfl⟩
  have nH5_ : H5_.n = H4_.n + 1 := by rw [hH5_]; rfl
  refine aops_val 27 (.slice (some ⟨H4_.n, 0, none⟩) (len + 1 + 1) (unk + 1)) H5_ (by kernel_rfl) (by kernel_rfl) (by kernel_rfl) ((by kernel_rfl : _ = val2 (aappend T20 27 27 (.slice (some ⟨H2_.n, 0, none⟩) (len + 1) (unk + 1)) (.slice (some ⟨H3_.n, 0, none⟩) 1 1) H4_)).trans (by rw [aappend_grow (e := 5) (xd := .slice 5) (s0 := 0) (by_ := 0) (z := .int .u8 0) (by kernel_rfl) (by kernel_rfl) rfl (by kernel_rfl) (by kernel_rfl) (by kernel_rfl) gH4_H2__n (by first | omega | (simp only [List.length_append, List.length_cons, List.length_nil]; omega)) (asrc_blk (l := [(byN N 1)]) gH4_H3__n rfl rfl) rfl (by omega) (by intro h0; simp only [blockOf, Option.some.injEq] at h0; omega) (by omega), ← hH5_]; rfl)) ?_
  refine aops_go 1 60 (by kernel_rfl) ?_
  refine aops_end (by kernel_rfl) (blk_normal (then_normal ?_))
  rw [f40bccacaaccc_eq]
  refine aw_reg ?_
  refine aops_go 2 60 (by kernel_rfl) ?_
  refine aops_end (by kernel_rfl) (then_normal (hK1_ _ ?_))
  refine aw_loop_k fun K2_ hK2_ => ?_
  rw [f40bccacaa_eq]
  refine aw_then ?_
  rw [f40bccacaaa_eq]
  refine aw_reg ?_
  refine aops_go 1 60 (by kernel_rfl) ?_
  refine aops_end (by kernel_rfl) (then_normal ?_)
  rw [f40bccacaac_eq]
  refine aw_then ?_
  rw [f40bccacaaca_eq]
  refine aw_cond (t := false) (by kernel_rfl) ?_
  refine aw_exit (then_exit (then_exit (blk_hit (then_normal ?_))))
  rw [f40bccc_eq]
  refine aw_then ?_
  rw [f40bccca_eq]
  refine aw_reg ?_
  refine aops_go 2 60 (by kernel_rfl) ?_
  refine aops_end (by kernel_rfl) (then_normal ?_)
  refine aw_ret (bodyQ_ret_to (.slice (some ⟨H4_.n, 0, none⟩) (len + 1 + 1) (unk + 1)) H5_ (by kernel_rfl) (by kernel_rfl) ?_)
  have gH5_H4__n : H5_.get (H4_.n) = some ⟨((xs ++ [(by0 op)]) ++ [(byN N 1)]), 5, false⟩ := by rw [hH5_]; exact (Heap.get_push _ _ _).trans (if_pos rfl)
  refine ⟨H4_.n, rfl, by simpa using gH5_H4__n, by omega, by omega, by omega, fun b hb hb2 => ?_⟩
  rw [hH5_, Heap.get_push, Heap.n_kill, if_neg (by omega), Heap.get_kill, if_neg (by omega)]
  rw [hH4_, Heap.get_push, if_neg (by omega)]
  rw [hH3_, Heap.get_push, Heap.n_kill, if_neg (by omega), Heap.get_kill, if_neg (by omega)]
  rw [hH2_, Heap.get_push, if_neg (by omega)]
  rw [hH1_, Heap.get_push, if_neg (by omega)]
theorem put_own5 {op N : Int} {H : Heap} {B len : Nat} {xs : List Value} (g : H.get B = some ⟨xs, 5, false⟩) (hB : B < H.n) (hxs : xs.length = len) (hl : len ≤ 1000000000) (hz : sizeV op = 5) : ACall Tryd.prog T20 40 #[.slice (some ⟨B, 0, none⟩) len (unk + 1), .agg #[.int .i64 op, .int .u32 N]] H fun r H' => ∃ B', r = .slice (some ⟨B', 0, none⟩) (len + 5) (unk + 1) ∧ H'.get B' = some ⟨xs ++ [by0 op, byN N 1, byN N 256, byN N 65536, byN N 16777216], 5, false⟩ ∧ B' < H'.n ∧ H.n ≤ B' ∧ H.n ≤ H'.n ∧ ∀ b, b < H.n → b ≠ B → H'.get b = H.get b := by
  refine acall_of' 30 (initTm 0 #[.slice (some ⟨B, 0, none⟩) len (unk + 1), .agg #[.int .i64 op, .int .u32 N]]) rfl f40_fn f40_body rfl rfl ?_
  rw [f40b_eq]
  refine aw_then ?_
  rw [f40ba_eq]
  refine aw_reg ?_
  obtain ⟨H1_, hH1_⟩ : ∃ x : Heap, x = H.push ⟨[Value.int .i64 op, .int .u32 N], 26, false⟩ := ⟨_, rfl⟩
  have nH1_ : H1_.n = H.n + 1 := by rw [hH1_]; rfl
  refine aops_val 3 (.pointer (some ⟨H.n, 0, none⟩)) H1_ (by kernel_rfl) (by kernel_rfl) (by kernel_rfl) ((by kernel_rfl : _ = some (Res.val (.pointer (some ⟨H.n, 0, none⟩)), H.push ⟨[Value.int .i64 op, .int .u32 N], 26, false⟩)).trans (by rw [← hH1_])) ?_
  refine aops_go 1 60 (by kernel_rfl) ?_
  refine aops_end (by kernel_rfl) (then_normal ?_)
  rw [f40bc_eq]
  refine aw_then ?_
  rw [f40bca_eq]
  refine aw_reg ?_
  refine aops_go 2 60 (by kernel_rfl) ?_
  have gH1_H_n : H1_.get (H.n) = some ⟨[Value.int .i64 op, .int .u32 N], 26, false⟩ := by rw [hH1_]; exact (Heap.get_push _ _ _).trans (if_pos rfl)
  refine aops_val 8 (.int .i64 op) H1_ (by kernel_rfl) (by kernel_rfl) (by kernel_rfl) ((by kernel_rfl : _ = val (aload T20 3 (.pointer (some ⟨H.n, 0, none⟩)) H1_) H1_).trans (val_of ((aload_at gH1_H_n).trans (by kernel_rfl)))) ?_
  refine aops_go 1 60 (by kernel_rfl) ?_
  obtain ⟨H2_, hH2_⟩ : ∃ x : Heap, x = H1_.push ⟨[(by0 op)], 5, false⟩ := ⟨_, rfl⟩
  have nH2_ : H2_.n = H1_.n + 1 := by rw [hH2_]; rfl
  refine aops_val 10 (.slice (some ⟨H1_.n, 0, none⟩) 1 1) H2_ (by kernel_rfl) (by kernel_rfl) (by kernel_rfl) ((by kernel_rfl : _ = some (Res.val (.slice (some ⟨H1_.n, 0, none⟩) 1 1), H1_.push ⟨[(by0 op)], 5, false⟩)).trans (by rw [← hH2_])) ?_
  have gH2_H1__n : H2_.get (H1_.n) = some ⟨[(by0 op)], 5, false⟩ := by rw [hH2_]; exact (Heap.get_push _ _ _).trans (if_pos rfl)
  have gH2_B : H2_.get (B) = some ⟨xs, 5, false⟩ := by rw [hH2_, Heap.get_push, if_neg (by omega)]; rw [hH1_, Heap.get_push, if_neg (by omega)]; exact g
  obtain ⟨H3_, hH3_⟩ : ∃ x : Heap, x = (H2_.kill (B)).push ⟨xs ++ [(by0 op)], 5, false⟩ := ⟨_, rfl⟩
  have nH3_ : H3_.n = H2_.n + 1 := by rw [hH3_]; rfl
  refine aops_val 11 (.slice (some ⟨H2_.n, 0, none⟩) (len + 1) (unk + 1)) H3_ (by kernel_rfl) (by kernel_rfl) (by kernel_rfl) ((by kernel_rfl : _ = val2 (aappend T20 27 27 (.slice (some ⟨B, 0, none⟩) len (unk + 1)) (.slice (some ⟨H1_.n, 0, none⟩) 1 1) H2_)).trans (by rw [aappend_grow (e := 5) (xd := .slice 5) (s0 := 0) (by_ := 0) (z := .int .u8 0) (by kernel_rfl) (by kernel_rfl) rfl (by kernel_rfl) (by kernel_rfl) (by kernel_rfl) gH2_B (by first | omega | (simp only [List.length_append, List.length_cons, List.length_nil]; omega)) (asrc_blk (l := [(by0 op)]) gH2_H1__n rfl rfl) rfl (by omega) (by intro h0; simp only [blockOf, Option.some.injEq] at h0; omega) (by omega), ← hH3_]; rfl)) ?_
  refine aops_go 1 60 (by kernel_rfl) ?_
  refine aops_end (by kernel_rfl) (then_normal ?_)
  rw [f40bcc_eq]
  refine aw_then ?_
  rw [f40bcca_eq]
  refine aw_then ?_
  rw [f40bccaa_eq]
  refine aw_reg ?_
  refine aops_go 1 60 (by kernel_rfl) ?_
  have gH3_H_n : H3_.get (H.n) = some ⟨[Value.int .i64 op, .int .u32 N], 26, false⟩ := by rw [hH3_, Heap.get_push, Heap.n_kill, if_neg (by omega), Heap.get_kill, if_neg (by omega)]; rw [hH2_, Heap.get_push, if_neg (by omega)]; exact gH1_H_n
  refine aops_val 13 (.int .i64 op) H3_ (by kernel_rfl) (by kernel_rfl) (by kernel_rfl) ((by kernel_rfl : _ = val (aload T20 3 (.pointer (some ⟨H.n, 0, none⟩)) H3_) H3_).trans (val_of ((aload_at gH3_H_n).trans (by kernel_rfl)))) ?_
  refine aops_ask 14 (.int .i64 5) 15 #[.int .i64 op] (by kernel_rfl) (by kernel_rfl) (by kernel_rfl) (by kernel_rfl) (show some (Value.int .i64 (sizeV op)) = _ by rw [hz]) ?_
  refine aops_go 2 60 (by kernel_rfl) ?_
  refine aops_end (by kernel_rfl) (then_normal ?_)
  rw [f40bccac_eq]
  refine aw_block ?_
  rw [f40bccaca_eq]
  refine aw_loop_k fun K1_ hK1_ => ?_
  rw [f40bccacaa_eq]
  refine aw_then ?_
  rw [f40bccacaaa_eq]
  refine aw_reg ?_
  refine aops_go 1 60 (by kernel_rfl) ?_
  refine aops_end (by kernel_rfl) (then_normal ?_)
  rw [f40bccacaac_eq]
  refine aw_then ?_
  rw [f40bccacaaca_eq]
  refine aw_cond (t := true) (by kernel_rfl) ?_
  refine aw_skip (then_normal ?_)
  rw [f40bccacaacc_eq]
  refine aw_then ?_
  rw [f40bccacaacca_eq]
  refine aw_block ?_
  rw [f40bccacaaccaa_eq]
  refine aw_then ?_
  rw [f40bccacaaccaaa_eq]
  refine aw_reg ?_
  refine aops_go 2 60 (by kernel_rfl) ?_
  refine aops_end (by kernel_rfl) (then_normal ?_)
  rw [f40bccacaaccaac_eq]
  refine aw_reg ?_
  refine aops_go 2 60 (by kernel_rfl) ?_
  refine aops_val 21 (.int .u32 N) H3_ (by kernel_rfl) (by kernel_rfl) (by kernel_rfl) ((by kernel_rfl : _ = val (aload T20 22 (.pointer (some ⟨H.n, 1, none⟩)) H3_) H3_).trans (val_of ((aload_at gH3_H_n).trans (by kernel_rfl)))) ?_
  refine aops_go 4 60 (by kernel_rfl) ?_
  obtain ⟨H4_, hH4_⟩ : ∃ x : Heap, x = H3_.push ⟨[(byN N 1)], 5, false⟩ := ⟨_, rfl⟩
  have nH4_ : H4_.n = H3_.n + 1 := by rw [hH4_]; rfl
  refine aops_val 26 (.slice (some ⟨H3_.n, 0, none⟩) 1 1) H4_ (by kernel_rfl) (by kernel_rfl) (by kernel_rfl) ((by kernel_rfl : _ = some (Res.val (.slice (some ⟨H3_.n, 0, none⟩) 1 1), H3_.push ⟨[(byN N 1)], 5, false⟩)).trans (by rw [← hH4_])) ?_
  have gH4_H3__n : H4_.get (H3_.n) = some ⟨[(byN N 1)], 5, false⟩ := by rw [hH4_]; exact (Heap.get_push _ _ _).trans (if_pos rfl)
  have gH4_H2__n : H4_.get (H2_.n) = some ⟨(xs ++ [(by0 op)]), 5, false⟩ := by rw [hH4_, Heap.get_push, if_neg (by omega)]; rw [hH3_]; exact (Heap.get_push _ _ _).trans (if_pos rfl)
  obtain ⟨H5_, hH5_⟩ : ∃ x : Heap, x = (H4_.kill (H2_.n)).push ⟨(xs ++ [(by0 op)]) ++ [(byN N 1)], 5, false⟩ := ⟨_, rfl⟩
  have nH5_ : H5_.n = H4_.n + 1 := by rw [hH5_]; rfl
  refine aops_val 27 (.slice (some ⟨H4_.n, 0, none⟩) (len + 1 + 1) (unk + 1)) H5_ (by kernel_rfl) (by kernel_rfl) (by kernel_rfl) ((by kernel_rfl : _ = val2 (aappend T20 27 27 (.slice (some ⟨H2_.n, 0, none⟩) (len + 1) (unk + 1)) (.slice (some ⟨H3_.n, 0, none⟩) 1 1) H4_)).trans (by rw [aappend_grow (e := 5) (xd := .slice 5) (s0 := 0) (by_ := 0) (z := .int .u8 0) (by kernel_rfl) (by kernel_rfl) rfl (by kernel_rfl) (by kernel_rfl) (by kernel_rfl) gH4_H2__n (by first | omega | (simp only [List.length_append, List.length_cons, List.length_nil]; omega)) (asrc_blk (l := [(byN N 1)]) gH4_H3__n rfl rfl) rfl (by omega) (by intro h0; simp only [blockOf, Option.some.injEq] at h0; omega) (by omega), ← hH5_]; rfl)) ?_
  refine aops_go 1 60 (by kernel_rfl) ?_
  refine aops_end (by kernel_rfl) (blk_normal (then_normal ?_))
  rw [f40bccacaaccc_eq]
  refine aw_reg ?_
  refine aops_go 2 60 (by kernel_rfl) ?_
  refine aops_end (by kernel_rfl) (then_normal (hK1_ _ ?_))
  refine aw_loop_k fun K2_ hK2_ => ?_
  rw [f40bccacaa_eq]
  refine aw_then ?_
  rw [f40bccacaaa_eq]
  refine aw_reg ?_
  refine aops_go 1 60 (by kernel_rfl) ?_
  refine aops_end (by kernel_rfl) (then_normal ?_)
  rw [f40bccacaac_eq]
  refine aw_then ?_
  rw [f40bccacaaca_eq]
  refine aw_cond (t := true) (by kernel_rfl) ?_
  refine aw_skip (then_normal ?_)
  rw [f40bccacaacc_eq]
  refine aw_then ?_
  rw [f40bccacaacca_eq]
  refine aw_block ?_
  rw [f40bccacaaccaa_eq]
  refine aw_then ?_
  rw [f40bccacaaccaaa_eq]
  refine aw_reg ?_
  refine aops_go 2 60 (by kernel_rfl) ?_
  refine aops_end (by kernel_rfl) (then_normal ?_)
  rw [f40bccacaaccaac_eq]
  refine aw_reg ?_
  refine aops_go 2 60 (by kernel_rfl) ?_
  have gH5_H_n : H5_.get (H.n) = some ⟨[Value.int .i64 op, .int .u32 N], 26, false⟩ := by rw [hH5_, Heap.get_push, Heap.n_kill, if_neg (by omega), Heap.get_kill, if_neg (by omega)]; rw [hH4_, Heap.get_push, if_neg (by omega)]; exact gH3_H_n
  refine aops_val 21 (.int .u32 N) H5_ (by kernel_rfl) (by kernel_rfl) (by kernel_rfl) ((by kernel_rfl : _ = val (aload T20 22 (.pointer (some ⟨H.n, 1, none⟩)) H5_) H5_).trans (val_of ((aload_at gH5_H_n).trans (by kernel_rfl)))) ?_
  refine aops_go 4 60 (by kernel_rfl) ?_
  obtain ⟨H6_, hH6_⟩ : ∃ x : Heap, x = H5_.push ⟨[(byN N 256)], 5, false⟩ := ⟨_, rfl⟩
  have nH6_ : H6_.n = H5_.n + 1 := by rw [hH6_]; rfl
  refine aops_val 26 (.slice (some ⟨H5_.n, 0, none⟩) 1 1) H6_ (by kernel_rfl) (by kernel_rfl) (by kernel_rfl) ((by kernel_rfl : _ = some (Res.val (.slice (some ⟨H5_.n, 0, none⟩) 1 1), H5_.push ⟨[(byN N 256)], 5, false⟩)).trans (by rw [← hH6_])) ?_
  have gH6_H5__n : H6_.get (H5_.n) = some ⟨[(byN N 256)], 5, false⟩ := by rw [hH6_]; exact (Heap.get_push _ _ _).trans (if_pos rfl)
  have gH6_H4__n : H6_.get (H4_.n) = some ⟨((xs ++ [(by0 op)]) ++ [(byN N 1)]), 5, false⟩ := by rw [hH6_, Heap.get_push, if_neg (by omega)]; rw [hH5_]; exact (Heap.get_push _ _ _).trans (if_pos rfl)
  obtain ⟨H7_, hH7_⟩ : ∃ x : Heap, x = (H6_.kill (H4_.n)).push ⟨((xs ++ [(by0 op)]) ++ [(byN N 1)]) ++ [(byN N 256)], 5, false⟩ := ⟨_, rfl⟩
  have nH7_ : H7_.n = H6_.n + 1 := by rw [hH7_]; rfl
  refine aops_val 27 (.slice (some ⟨H6_.n, 0, none⟩) (len + 1 + 1 + 1) (unk + 1)) H7_ (by kernel_rfl) (by kernel_rfl) (by kernel_rfl) ((by kernel_rfl : _ = val2 (aappend T20 27 27 (.slice (some ⟨H4_.n, 0, none⟩) (len + 1 + 1) (unk + 1)) (.slice (some ⟨H5_.n, 0, none⟩) 1 1) H6_)).trans (by rw [aappend_grow (e := 5) (xd := .slice 5) (s0 := 0) (by_ := 0) (z := .int .u8 0) (by kernel_rfl) (by kernel_rfl) rfl (by kernel_rfl) (by kernel_rfl) (by kernel_rfl) gH6_H4__n (by first | omega | (simp only [List.length_append, List.length_cons, List.length_nil]; omega)) (asrc_blk (l := [(byN N 256)]) gH6_H5__n rfl rfl) rfl (by omega) (by intro h0; simp only [blockOf, Option.some.injEq] at h0; omega) (by omega), ← hH7_]; rfl)) ?_
  refine aops_go 1 60 (by kernel_rfl) ?_
  refine aops_end (by kernel_rfl) (blk_normal (then_normal ?_))
  rw [f40bccacaaccc_eq]
  refine aw_reg ?_
  refine aops_go 2 60 (by kernel_rfl) ?_
  refine aops_end (by kernel_rfl) (then_normal (hK2_ _ ?_))
  refine aw_loop_k fun K3_ hK3_ => ?_
  rw [f40bccacaa_eq]
  refine aw_then ?_
  rw [f40bccacaaa_eq]
  refine aw_reg ?_
  refine aops_go 1 60 (by kernel_rfl) ?_
  refine aops_end (by kernel_rfl) (then_normal ?_)
  rw [f40bccacaac_eq]
  refine aw_then ?_
  rw [f40bccacaaca_eq]
  refine aw_cond (t := true) (by kernel_rfl) ?_
  refine aw_skip (then_normal ?_)
  rw [f40bccacaacc_eq]
  refine aw_then ?_
  rw [f40bccacaacca_eq]
  refine aw_block ?_
  rw [f40bccacaaccaa_eq]
  refine aw_then ?_
  rw [f40bccacaaccaaa_eq]
  refine aw_reg ?_
  refine aops_go 2 60 (by kernel_rfl) ?_
  refine aops_end (by kernel_rfl) (then_normal ?_)
  rw [f40bccacaaccaac_eq]
  refine aw_reg ?_
  refine aops_go 2 60 (by kernel_rfl) ?_
  have gH7_H_n : H7_.get (H.n) = some ⟨[Value.int .i64 op, .int .u32 N], 26, false⟩ := by rw [hH7_, Heap.get_push, Heap.n_kill, if_neg (by omega), Heap.get_kill, if_neg (by omega)]; rw [hH6_, Heap.get_push, if_neg (by omega)]; exact gH5_H_n
  refine aops_val 21 (.int .u32 N) H7_ (by kernel_rfl) (by kernel_rfl) (by kernel_rfl) ((by kernel_rfl : _ = val (aload T20 22 (.pointer (some ⟨H.n, 1, none⟩)) H7_) H7_).trans (val_of ((aload_at gH7_H_n).trans (by kernel_rfl)))) ?_
  refine aops_go 4 60 (by kernel_rfl) ?_
  obtain ⟨H8_, hH8_⟩ : ∃ x : Heap, x = H7_.push ⟨[(byN N 65536)], 5, false⟩ := ⟨_, rfl⟩
  have nH8_ : H8_.n = H7_.n + 1 := by rw [hH8_]; rfl
  refine aops_val 26 (.slice (some ⟨H7_.n, 0, none⟩) 1 1) H8_ (by kernel_rfl) (by kernel_rfl) (by kernel_rfl) ((by kernel_rfl : _ = some (Res.val (.slice (some ⟨H7_.n, 0, none⟩) 1 1), H7_.push ⟨[(byN N 65536)], 5, false⟩)).trans (by rw [← hH8_])) ?_
  have gH8_H7__n : H8_.get (H7_.n) = some ⟨[(byN N 65536)], 5, false⟩ := by rw [hH8_]; exact (Heap.get_push _ _ _).trans (if_pos rfl)
  have gH8_H6__n : H8_.get (H6_.n) = some ⟨(((xs ++ [(by0 op)]) ++ [(byN N 1)]) ++ [(byN N 256)]), 5, false⟩ := by rw [hH8_, Heap.get_push, if_neg (by omega)]; rw [hH7_]; exact (Heap.get_push _ _ _).trans (if_pos rfl)
  obtain ⟨H9_, hH9_⟩ : ∃ x : Heap, x = (H8_.kill (H6_.n)).push ⟨(((xs ++ [(by0 op)]) ++ [(byN N 1)]) ++ [(byN N 256)]) ++ [(byN N 65536)], 5, false⟩ := ⟨_, rfl⟩
  have nH9_ : H9_.n = H8_.n + 1 := by rw [hH9_]; rfl
  refine aops_val 27 (.slice (some ⟨H8_.n, 0, none⟩) (len + 1 + 1 + 1 + 1) (unk + 1)) H9_ (by kernel_rfl) (by kernel_rfl) (by kernel_rfl) ((by kernel_rfl : _ = val2 (aappend T20 27 27 (.slice (some ⟨H6_.n, 0, none⟩) (len + 1 + 1 + 1) (unk + 1)) (.slice (some ⟨H7_.n, 0, none⟩) 1 1) H8_)).trans (by rw [aappend_grow (e := 5) (xd := .slice 5) (s0 := 0) (by_ := 0) (z := .int .u8 0) (by kernel_rfl) (by kernel_rfl) rfl (by kernel_rfl) (by kernel_rfl) (by kernel_rfl) gH8_H6__n (by first | omega | (simp only [List.length_append, List.length_cons, List.length_nil]; omega)) (asrc_blk (l := [(byN N 65536)]) gH8_H7__n rfl rfl) rfl (by omega) (by intro h0; simp only [blockOf, Option.some.injEq] at h0; omega) (by omega), ← hH9_]; rfl)) ?_
  refine aops_go 1 60 (by kernel_rfl) ?_
  refine aops_end (by kernel_rfl) (blk_normal (then_normal ?_))
  rw [f40bccacaaccc_eq]
  refine aw_reg ?_
  refine aops_go 2 60 (by kernel_rfl) ?_
  refine aops_end (by kernel_rfl) (then_normal (hK3_ _ ?_))
  refine aw_loop_k fun K4_ hK4_ => ?_
  rw [f40bccacaa_eq]
  refine aw_then ?_
  rw [f40bccacaaa_eq]
  refine aw_reg ?_
  refine aops_go 1 60 (by kernel_rfl) ?_
  refine aops_end (by kernel_rfl) (then_normal ?_)
  rw [f40bccacaac_eq]
  refine aw_then ?_
  rw [f40bccacaaca_eq]
  refine aw_cond (t := true) (by kernel_rfl) ?_
  refine aw_skip (then_normal ?_)
  rw [f40bccacaacc_eq]
  refine aw_then ?_
  rw [f40bccacaacca_eq]
  refine aw_block ?_
  rw [f40bccacaaccaa_eq]
  refine aw_then ?_
  rw [f40bccacaaccaaa_eq]
  refine aw_reg ?_
  refine aops_go 2 60 (by kernel_rfl) ?_
  refine aops_end (by kernel_rfl) (then_normal ?_)
  rw [f40bccacaaccaac_eq]
  refine aw_reg ?_
  refine aops_go 2 60 (by kernel_rfl) ?_
  have gH9_H_n : H9_.get (H.n) = some ⟨[Value.int .i64 op, .int .u32 N], 26, false⟩ := by rw [hH9_, Heap.get_push, Heap.n_kill, if_neg (by omega), Heap.get_kill, if_neg (by omega)]; rw [hH8_, Heap.get_push, if_neg (by omega)]; exact gH7_H_n
  refine aops_val 21 (.int .u32 N) H9_ (by kernel_rfl) (by kernel_rfl) (by kernel_rfl) ((by kernel_rfl : _ = val (aload T20 22 (.pointer (some ⟨H.n, 1, none⟩)) H9_) H9_).trans (val_of ((aload_at gH9_H_n).trans (by kernel_rfl)))) ?_
  refine aops_go 4 60 (by kernel_rfl) ?_
  obtain ⟨H10_, hH10_⟩ : ∃ x : Heap, x = H9_.push ⟨[(byN N 16777216)], 5, false⟩ := ⟨_, rfl⟩
  have nH10_ : H10_.n = H9_.n + 1 := by rw [hH10_]; rfl
  refine aops_val 26 (.slice (some ⟨H9_.n, 0, none⟩) 1 1) H10_ (by kernel_rfl) (by kernel_rfl) (by kernel_rfl) ((by kernel_rfl : _ = some (Res.val (.slice (some ⟨H9_.n, 0, none⟩) 1 1), H9_.push ⟨[(byN N 16777216)], 5, false⟩)).trans (by rw [← hH10_])) ?_
  have gH10_H9__n : H10_.get (H9_.n) = some ⟨[(byN N 16777216)], 5, false⟩ := by rw [hH10_]; exact (Heap.get_push _ _ _).trans (if_pos rfl)
  have gH10_H8__n : H10_.get (H8_.n) = some ⟨((((xs ++ [(by0 op)]) ++ [(byN N 1)]) ++ [(byN N 256)]) ++ [(byN N 65536)]), 5, false⟩ := by rw [hH10_, Heap.get_push, if_neg (by omega)]; rw [hH9_]; exact (Heap.get_push _ _ _).trans (if_pos rfl)
  obtain ⟨H11_, hH11_⟩ : ∃ x : Heap, x = (H10_.kill (H8_.n)).push ⟨((((xs ++ [(by0 op)]) ++ [(byN N 1)]) ++ [(byN N 256)]) ++ [(byN N 65536)]) ++ [(byN N 16777216)], 5, false⟩ := ⟨_, rfl⟩
  have nH11_ : H11_.n = H10_.n + 1 := by rw [hH11_]; rfl
  refine aops_val 27 (.slice (some ⟨H10_.n, 0, none⟩) (len + 1 + 1 + 1 + 1 + 1) (unk + 1)) H11_ (by kernel_rfl) (by kernel_rfl) (by kernel_rfl) ((by kernel_rfl : _ = val2 (aappend T20 27 27 (.slice (some ⟨H8_.n, 0, none⟩) (len + 1 + 1 + 1 + 1) (unk + 1)) (.slice (some ⟨H9_.n, 0, none⟩) 1 1) H10_)).trans (by rw [aappend_grow (e := 5) (xd := .slice 5) (s0 := 0) (by_ := 0) (z := .int .u8 0) (by kernel_rfl) (by kernel_rfl) rfl (by kernel_rfl) (by kernel_rfl) (by kernel_rfl) gH10_H8__n (by first | omega | (simp only [List.length_append, List.length_cons, List.length_nil]; omega)) (asrc_blk (l := [(byN N 16777216)]) gH10_H9__n rfl rfl) rfl (by omega) (by intro h0; simp only [blockOf, Option.some.injEq] at h0; omega) (by omega), ← hH11_]; rfl)) ?_
  refine aops_go 1 60 (by kernel_rfl) ?_
  refine aops_end (by kernel_rfl) (blk_normal (then_normal ?_))
  rw [f40bccacaaccc_eq]
  refine aw_reg ?_
  refine aops_go 2 60 (by kernel_rfl) ?_
  refine aops_end (by kernel_rfl) (then_normal (hK4_ _ ?_))
  refine aw_loop_k fun K5_ hK5_ => ?_
  rw [f40bccacaa_eq]
  refine aw_then ?_
  rw [f40bccacaaa_eq]
  refine aw_reg ?_
  refine aops_go 1 60 (by kernel_rfl) ?_
  refine aops_end (by kernel_rfl) (then_normal ?_)
  rw [f40bccacaac_eq]
  refine aw_then ?_
  rw [f40bccacaaca_eq]
  refine aw_cond (t := false) (by kernel_rfl) ?_
  refine aw_exit (then_exit (then_exit (blk_hit (then_normal ?_))))
  rw [f40bccc_eq]
  refine aw_then ?_
  rw [f40bccca_eq]
  refine aw_reg ?_
  refine aops_go 2 60 (by kernel_rfl) ?_
  refine aops_end (by kernel_rfl) (then_normal ?_)
  refine aw_ret (bodyQ_ret_to (.slice (some ⟨H10_.n, 0, none⟩) (len + 1 + 1 + 1 + 1 + 1) (unk + 1)) H11_ (by kernel_rfl) (by kernel_rfl) ?_)
  have gH11_H10__n : H11_.get (H10_.n) = some ⟨(((((xs ++ [(by0 op)]) ++ [(byN N 1)]) ++ [(byN N 256)]) ++ [(byN N 65536)]) ++ [(byN N 16777216)]), 5, false⟩ := by rw [hH11_]; exact (Heap.get_push _ _ _).trans (if_pos rfl)
  refine ⟨H10_.n, rfl, by simpa using gH11_H10__n, by omega, by omega, by omega, fun b hb hb2 => ?_⟩
  rw [hH11_, Heap.get_push, Heap.n_kill, if_neg (by omega), Heap.get_kill, if_neg (by omega)]
  rw [hH10_, Heap.get_push, if_neg (by omega)]
  rw [hH9_, Heap.get_push, Heap.n_kill, if_neg (by omega), Heap.get_kill, if_neg (by omega)]
  rw [hH8_, Heap.get_push, if_neg (by omega)]
  rw [hH7_, Heap.get_push, Heap.n_kill, if_neg (by omega), Heap.get_kill, if_neg (by omega)]
  rw [hH6_, Heap.get_push, if_neg (by omega)]
  rw [hH5_, Heap.get_push, Heap.n_kill, if_neg (by omega), Heap.get_kill, if_neg (by omega)]
  rw [hH4_, Heap.get_push, if_neg (by omega)]
  rw [hH3_, Heap.get_push, Heap.n_kill, if_neg (by omega), Heap.get_kill, if_neg (by omega)]
  rw [hH2_, Heap.get_push, if_neg (by omega)]
  rw [hH1_, Heap.get_push, if_neg (by omega)]
end Gc
end Go.Proofs.YtpfmmckbfejfnaaDoor
