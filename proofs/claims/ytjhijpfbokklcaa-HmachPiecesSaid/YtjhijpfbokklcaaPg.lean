/- Chapter 4: Step. -/
import Derived.Test.YtjhijpfbokklcaaPf
namespace Go.Proofs.Ytjhijpfbokklcaa
open Go Go.Ev Go.RowKit
set_option linter.unusedVariables false
set_option linter.unusedSimpArgs false
set_option maxRecDepth 100000
namespace Hm
noncomputable def f21b : Code := Try.f21.body.getD .skip
theorem f21_body : Try.f21.body = some f21b := by kernel_rfl
theorem f21_fn : T8.fn 21 = some Try.f21 := by kernel_rfl
theorem step_nil {H : Heap} {M W n : Nat} {R Wd : List Int} {pc : Int} (gM : H.get M = some ⟨macC R W n (.slice none 0 0) pc, 62, false⟩) (gW : H.get W = some ⟨Wd.map (Value.int .u32), 30, false⟩) (hR : R.length = 16) (hMW : M ≠ W) (hM : M < H.n) (hW : W < H.n) (h0 : 0 ≤ pc) : ACall Try.prog T8 21 #[.pointer (some ⟨M, 0, none⟩)] H fun r H' => r = .int .i64 2 ∧ MTo H H' 62 M W n (.slice none 0 0) R Wd pc := by
  refine acall_cf 144 (initTm 0 #[.pointer (some ⟨M, 0, none⟩)]) rfl f21_fn f21_body rfl rfl ?_
  refine cf_go 11 ?_
  refine cf_val 11 (.int .i64 pc) H (by kernel_rfl) ((by kernel_rfl : _ = val (aload T8 3 (.pointer (some ⟨M, 18, none⟩)) H) H).trans (val_of ((aload_at gM).trans (aloadC_cellB (n := 1) (by kernel_rfl) (by kernel_rfl) (mc_18 hR))))) ?_
  refine cf_go 1 ?_
  refine cf_see 12 (.bool false) (see_bool (by kernel_rfl) ((decide_eq_false (by omega)) : ((decide ((pc : Int) < 0))) = false)) ?_
  refine cf_go 4 ?_
  refine cf_val 17 (.int .i64 pc) H (by kernel_rfl) ((by kernel_rfl : _ = val (aload T8 3 (.pointer (some ⟨M, 18, none⟩)) H) H).trans (val_of ((aload_at gM).trans (aloadC_cellB (n := 1) (by kernel_rfl) (by kernel_rfl) (mc_18 hR))))) ?_
  refine cf_go 3 ?_
  refine cf_val 21 (.slice none 0 0) H (by kernel_rfl) ((by kernel_rfl : _ = val (aload T8 22 (.pointer (some ⟨M, 17, none⟩)) H) H).trans (val_of ((aload_at gM).trans (aloadC_cellB (n := 1) (by kernel_rfl) (by kernel_rfl) (mc_17 hR))))) ?_
  refine cf_go 2 ?_
  refine cf_see 23 (.bool true) (see_bool (by kernel_rfl) ((decide_eq_true (by omega)) : ((decide ((pc : Int) ≥ 0))) = true)) ?_
  refine cf_go 11 ?_
  refine cf_end (.int .i64 2) H (by kernel_rfl) (by kernel_rfl) (by kernel_rfl) ?_
  exact ⟨rfl, by omega, gM, gW, fun b hb h1 h2 => rfl⟩
theorem step_out {H : Heap} {M W n : Nat} {R Wd : List Int} {pc : Int} {C : Nat} {is : List Ins5} (gM : H.get M = some ⟨macC R W n (.slice (some ⟨C, 0, none⟩) is.length (unk + 5)) pc, 62, false⟩) (gW : H.get W = some ⟨Wd.map (Value.int .u32), 30, false⟩) (hR : R.length = 16) (hMW : M ≠ W) (hM : M < H.n) (hW : W < H.n) (h0 : 0 ≤ pc) (h1 : ((is.length : Nat) : Int) ≤ pc) : ACall Try.prog T8 21 #[.pointer (some ⟨M, 0, none⟩)] H fun r H' => r = .int .i64 2 ∧ MTo H H' 62 M W n (.slice (some ⟨C, 0, none⟩) is.length (unk + 5)) R Wd pc := by
  refine acall_cf 144 (initTm 0 #[.pointer (some ⟨M, 0, none⟩)]) rfl f21_fn f21_body rfl rfl ?_
  refine cf_go 11 ?_
  refine cf_val 11 (.int .i64 pc) H (by kernel_rfl) ((by kernel_rfl : _ = val (aload T8 3 (.pointer (some ⟨M, 18, none⟩)) H) H).trans (val_of ((aload_at gM).trans (aloadC_cellB (n := 1) (by kernel_rfl) (by kernel_rfl) (mc_18 hR))))) ?_
  refine cf_go 1 ?_
  refine cf_see 12 (.bool false) (see_bool (by kernel_rfl) ((decide_eq_false (by omega)) : ((decide ((pc : Int) < 0))) = false)) ?_
  refine cf_go 4 ?_
  refine cf_val 17 (.int .i64 pc) H (by kernel_rfl) ((by kernel_rfl : _ = val (aload T8 3 (.pointer (some ⟨M, 18, none⟩)) H) H).trans (val_of ((aload_at gM).trans (aloadC_cellB (n := 1) (by kernel_rfl) (by kernel_rfl) (mc_18 hR))))) ?_
  refine cf_go 3 ?_
  refine cf_val 21 (.slice (some ⟨C, 0, none⟩) is.length (unk + 5)) H (by kernel_rfl) ((by kernel_rfl : _ = val (aload T8 22 (.pointer (some ⟨M, 17, none⟩)) H) H).trans (val_of ((aload_at gM).trans (aloadC_cellB (n := 1) (by kernel_rfl) (by kernel_rfl) (mc_17 hR))))) ?_
  refine cf_go 2 ?_
  refine cf_see 23 (.bool true) (see_bool (by kernel_rfl) ((decide_eq_true (by omega)) : ((decide ((pc : Int) ≥ ((is.length : Nat) : Int)))) = true)) ?_
  refine cf_go 11 ?_
  refine cf_end (.int .i64 2) H (by kernel_rfl) (by kernel_rfl) (by kernel_rfl) ?_
  exact ⟨rfl, by omega, gM, gW, fun b hb h1 h2 => rfl⟩
theorem step_nop {H : Heap} {M W n : Nat} {R Wd : List Int} {C k rd ra rb pl : Nat} {is : List Ins5} { im xa xb : Int} (hk : is[k]? = some (0, (rd : Int), (ra : Int), (rb : Int), im)) (hkl : k < is.length) (hk2 : k < 4611686018427387904) (hrd : rd < 16) (hra : ra < 16) (hrb : rb < 16) (hi0 : 0 ≤ im) (hi1 : im < 4294967296) (ea : R[ra]? = some xa) (eb : R[rb]? = some xb) (ha0 : 0 ≤ xa) (ha1 : xa < 18446744073709551616) (hb0 : 0 ≤ xb) (hb1 : xb < 18446744073709551616) (hpl : IntKind.u64.wrap (xa + im) = ((pl : Nat) : Int)) (hpl2 : pl < 18446744073709551616) (hn : n ≤ 65536) (hWl : Wd.length = n) (gC : H.get C = some ⟨insC is, 48, false⟩) (hC : C < H.n) (hMC : M ≠ C) (hWC : W ≠ C) (gM : H.get M = some ⟨macC R W n (.slice (some ⟨C, 0, none⟩) is.length (unk + 5)) (k : Int), 62, false⟩) (gW : H.get W = some ⟨Wd.map (Value.int .u32), 30, false⟩) (hR : R.length = 16) (hMW : M ≠ W) (hM : M < H.n) (hW : W < H.n)  : ACall Try.prog T8 21 #[.pointer (some ⟨M, 0, none⟩)] H fun r H' => r = .int .i64 0 ∧ MTo H H' 62 M W n (.slice (some ⟨C, 0, none⟩) is.length (unk + 5)) R Wd ((k + 1 : Nat) : Int) := by
  refine acall_cf 144 (initTm 0 #[.pointer (some ⟨M, 0, none⟩)]) rfl f21_fn f21_body rfl rfl ?_
  refine cf_go 11 ?_
  refine cf_val 11 (.int .i64 ((k : Nat) : Int)) H (by kernel_rfl) ((by kernel_rfl : _ = val (aload T8 3 (.pointer (some ⟨M, 18, none⟩)) H) H).trans (val_of ((aload_at gM).trans (aloadC_cellB (n := 1) (by kernel_rfl) (by kernel_rfl) (mc_18 hR))))) ?_
  refine cf_go 1 ?_
  refine cf_see 12 (.bool false) (see_bool (by kernel_rfl) ((decide_eq_false (by omega)) : ((decide (((k : Nat) : Int) < 0))) = false)) ?_
  refine cf_go 4 ?_
  refine cf_val 17 (.int .i64 ((k : Nat) : Int)) H (by kernel_rfl) ((by kernel_rfl : _ = val (aload T8 3 (.pointer (some ⟨M, 18, none⟩)) H) H).trans (val_of ((aload_at gM).trans (aloadC_cellB (n := 1) (by kernel_rfl) (by kernel_rfl) (mc_18 hR))))) ?_
  refine cf_go 3 ?_
  refine cf_val 21 (.slice (some ⟨C, 0, none⟩) is.length (unk + 5)) H (by kernel_rfl) ((by kernel_rfl : _ = val (aload T8 22 (.pointer (some ⟨M, 17, none⟩)) H) H).trans (val_of ((aload_at gM).trans (aloadC_cellB (n := 1) (by kernel_rfl) (by kernel_rfl) (mc_17 hR))))) ?_
  refine cf_go 2 ?_
  refine cf_see 23 (.bool false) (see_bool (by kernel_rfl) ((decide_eq_false (by omega)) : ((decide (((k : Nat) : Int) ≥ ((is.length : Nat) : Int)))) = false)) ?_
  refine cf_go 11 ?_
  refine cf_val 28 (.slice (some ⟨C, 0, none⟩) is.length (unk + 5)) H (by kernel_rfl) ((by kernel_rfl : _ = val (aload T8 22 (.pointer (some ⟨M, 17, none⟩)) H) H).trans (val_of ((aload_at gM).trans (aloadC_cellB (n := 1) (by kernel_rfl) (by kernel_rfl) (mc_17 hR))))) ?_
  refine cf_go 3 ?_
  refine cf_val 32 (.int .i64 ((k : Nat) : Int)) H (by kernel_rfl) ((by kernel_rfl : _ = val (aload T8 3 (.pointer (some ⟨M, 18, none⟩)) H) H).trans (val_of ((aload_at gM).trans (aloadC_cellB (n := 1) (by kernel_rfl) (by kernel_rfl) (mc_18 hR))))) ?_
  refine cf_val 33 (.pointer (some ⟨C, 0 + k * 5, none⟩)) H (by kernel_rfl) ((by kernel_rfl : _ = val (bif (k : Nat).blt is.length then some (.pointer (some ⟨C, 0 + k * 5, none⟩)) else none) H).trans (by rw [show (k : Nat).blt is.length = true from (by rw [blt_dec]; simp only [decide_eq_true_eq]; omega)]; rfl)) ?_
  refine cf_val 34 (.agg #[.int .i64 0, .int .i64 ((rd : Nat) : Int), .int .i64 ((ra : Nat) : Int), .int .i64 ((rb : Nat) : Int), .int .u32 im]) H (by kernel_rfl) ((by kernel_rfl : _ = val (aload T8 48 (.pointer (some ⟨C, 0 + k * 5, none⟩)) H) H).trans (val_of ((aload_at gC).trans (aloadC_rowB (n := 5) (l := [Value.int .i64 0, .int .i64 ((rd : Nat) : Int), .int .i64 ((ra : Nat) : Int), .int .i64 ((rb : Nat) : Int), .int .u32 im]) (by kernel_rfl) (by kernel_rfl) rfl (insC_at is k _ hk))))) ?_
  obtain ⟨H1_, hH1_⟩ : ∃ x : Heap, x = H.push ⟨[Value.int .i64 0, .int .i64 0, .int .i64 0, .int .i64 0, .int .u32 0], 48, false⟩ := ⟨_, rfl⟩
  have nH1_ : H1_.n = H.n + 1 := by rw [hH1_]; rfl
  refine cf_val 3 (.pointer (some ⟨H.n, 0, none⟩)) H1_ (by kernel_rfl) ((by kernel_rfl : _ = some (Res.val (.pointer (some ⟨H.n, 0, none⟩)), H.push ⟨[Value.int .i64 0, .int .i64 0, .int .i64 0, .int .i64 0, .int .u32 0], 48, false⟩)).trans (by rw [← hH1_])) ?_
  have gH1_H_n : H1_.get (H.n) = some ⟨[Value.int .i64 0, .int .i64 0, .int .i64 0, .int .i64 0, .int .u32 0], 48, false⟩ := by rw [hH1_]; exact (Heap.get_push _ _ _).trans (if_pos rfl)
  obtain ⟨H2_, hH2_⟩ : ∃ x : Heap, x = H1_.put (H.n) ⟨[Value.int .i64 0, .int .i64 ((rd : Nat) : Int), .int .i64 ((ra : Nat) : Int), .int .i64 ((rb : Nat) : Int), .int .u32 im], 48, false⟩ := ⟨_, rfl⟩
  have nH2_ : H2_.n = H1_.n := by rw [hH2_]; rfl
  refine cf_skip H2_ (by kernel_rfl) ((by kernel_rfl : _ = skp (astore T8 48 (.pointer (some ⟨H.n, 0, none⟩)) (.agg #[.int .i64 0, .int .i64 ((rd : Nat) : Int), .int .i64 ((ra : Nat) : Int), .int .i64 ((rb : Nat) : Int), .int .u32 im]) H1_)).trans (by rw [astore_to gH1_H_n (by kernel_rfl), ← hH2_]; rfl)) ?_
  refine cf_go 6 ?_
  have gH2_H_n : H2_.get (H.n) = some ⟨[Value.int .i64 0, .int .i64 ((rd : Nat) : Int), .int .i64 ((ra : Nat) : Int), .int .i64 ((rb : Nat) : Int), .int .u32 im], 48, false⟩ := by rw [hH2_]; exact (Heap.get_put _ _ _ _).trans (if_pos rfl)
  refine cf_val 37 (.int .i64 ((ra : Nat) : Int)) H2_ (by kernel_rfl) ((by kernel_rfl : _ = val (aload T8 3 (.pointer (some ⟨H.n, 2, none⟩)) H2_) H2_).trans (val_of ((aload_at gH2_H_n).trans (by kernel_rfl)))) ?_
  refine cf_go 2 ?_
  refine cf_val 40 (.pointer (some ⟨M, 0 + ra * 1, none⟩)) H2_ (by kernel_rfl) ((by kernel_rfl : _ = val (bif (ra : Nat).blt 16 then some (.pointer (some ⟨M, 0 + ra * 1, none⟩)) else none) H2_).trans (by rw [show (ra : Nat).blt 16 = true from (by rw [blt_dec]; simp only [decide_eq_true_eq]; omega)]; rfl)) ?_
  have gH2_M : H2_.get (M) = some ⟨(R.map (Value.int .u64) ++ [Value.slice (some ⟨W, 0, none⟩) n n, .slice (some ⟨C, 0, none⟩) is.length (unk + 5), .int .i64 ((k : Nat) : Int)]), 62, false⟩ := by rw [hH2_, Heap.get_put, if_neg (by omega)]; rw [hH1_, Heap.get_push, if_neg (by omega)]; exact gM
  refine cf_val 41 (.int .u64 xa) H2_ (by kernel_rfl) ((by kernel_rfl : _ = val (aload T8 42 (.pointer (some ⟨M, 0 + ra * 1, none⟩)) H2_) H2_).trans (val_of ((aload_at gH2_M).trans (aloadC_cellB (n := 1) (by kernel_rfl) (by kernel_rfl) (mc_r ea))))) ?_
  refine cf_go 2 ?_
  refine cf_val 44 (.int .i64 ((rb : Nat) : Int)) H2_ (by kernel_rfl) ((by kernel_rfl : _ = val (aload T8 3 (.pointer (some ⟨H.n, 3, none⟩)) H2_) H2_).trans (val_of ((aload_at gH2_H_n).trans (by kernel_rfl)))) ?_
  refine cf_go 2 ?_
  refine cf_val 47 (.pointer (some ⟨M, 0 + rb * 1, none⟩)) H2_ (by kernel_rfl) ((by kernel_rfl : _ = val (bif (rb : Nat).blt 16 then some (.pointer (some ⟨M, 0 + rb * 1, none⟩)) else none) H2_).trans (by rw [show (rb : Nat).blt 16 = true from (by rw [blt_dec]; simp only [decide_eq_true_eq]; omega)]; rfl)) ?_
  refine cf_val 48 (.int .u64 xb) H2_ (by kernel_rfl) ((by kernel_rfl : _ = val (aload T8 42 (.pointer (some ⟨M, 0 + rb * 1, none⟩)) H2_) H2_).trans (val_of ((aload_at gH2_M).trans (aloadC_cellB (n := 1) (by kernel_rfl) (by kernel_rfl) (mc_r eb))))) ?_
  refine cf_go 8 ?_
  refine cf_val 51 (.int .u32 im) H2_ (by kernel_rfl) ((by kernel_rfl : _ = val (aload T8 30 (.pointer (some ⟨H.n, 4, none⟩)) H2_) H2_).trans (val_of ((aload_at gH2_H_n).trans (by kernel_rfl)))) ?_
  refine cf_go 1 ?_
  refine cf_see 52 (.int .u64 im) (see_int (x := IntKind.u64.wrap im) (by kernel_rfl) (wu64 rfl (by omega) (by omega))) ?_
  refine cf_go 1 ?_
  refine cf_see 53 (.int .u64 ((pl : Nat) : Int)) (see_int (x := (IntKind.u64.wrap (xa + im))) (by kernel_rfl) hpl) ?_
  refine cf_go 8 ?_
  refine cf_val 57 (.int .i64 ((k : Nat) : Int)) H2_ (by kernel_rfl) ((by kernel_rfl : _ = val (aload T8 3 (.pointer (some ⟨M, 18, none⟩)) H2_) H2_).trans (val_of ((aload_at gH2_M).trans (aloadC_cellB (n := 1) (by kernel_rfl) (by kernel_rfl) (mc_18 hR))))) ?_
  refine cf_go 1 ?_
  refine cf_see 58 (.int .i64 ((k + 1 : Nat) : Int)) (see_int (x := (IntKind.i64.wrap (((k : Nat) : Int) + 1))) (by kernel_rfl) (w64 (by omega) (by omega) (by omega))) ?_
  refine cf_go 7 ?_
  refine cf_val 60 (.int .i64 0) H2_ (by kernel_rfl) ((by kernel_rfl : _ = val (aload T8 3 (.pointer (some ⟨H.n, 0, none⟩)) H2_) H2_).trans (val_of ((aload_at gH2_H_n).trans (by kernel_rfl)))) ?_
  refine cf_go 19 ?_
  obtain ⟨H3_, hH3_⟩ : ∃ x : Heap, x = H2_.put (M) ⟨(R.map (Value.int .u64) ++ [Value.slice (some ⟨W, 0, none⟩) n n, .slice (some ⟨C, 0, none⟩) is.length (unk + 5), .int .i64 ((k + 1 : Nat) : Int)]), 62, false⟩ := ⟨_, rfl⟩
  have nH3_ : H3_.n = H2_.n := by rw [hH3_]; rfl
  refine cf_skip H3_ (by kernel_rfl) ((by kernel_rfl : _ = skp (astore T8 3 (.pointer (some ⟨M, 18, none⟩)) (.int .i64 ((k + 1 : Nat) : Int)) H2_)).trans (by rw [astore_to gH2_M ((astoreC_one (by kernel_rfl) rfl rfl (by rw [ml hR]; omega)).trans (congrArg some (ms_18 hR))), ← hH3_]; rfl)) ?_
  refine cf_go 8 ?_
  have gH3_M : H3_.get (M) = some ⟨(R.map (Value.int .u64) ++ [Value.slice (some ⟨W, 0, none⟩) n n, .slice (some ⟨C, 0, none⟩) is.length (unk + 5), .int .i64 ((k + 1 : Nat) : Int)]), 62, false⟩ := by rw [hH3_]; exact (Heap.get_put _ _ _ _).trans (if_pos rfl)
  have gH3_W : H3_.get (W) = some ⟨(Wd.map (Value.int .u32)), 30, false⟩ := by rw [hH3_, Heap.get_put, if_neg (by omega)]; rw [hH2_, Heap.get_put, if_neg (by omega)]; rw [hH1_, Heap.get_push, if_neg (by omega)]; exact gW
  refine cf_end (.int .i64 0) H3_ (by kernel_rfl) (by kernel_rfl) (by kernel_rfl) ?_
  exact ⟨rfl, by omega, gH3_M, gH3_W, fun b hb h1 h2 => by rw [hH3_, Heap.get_put, if_neg (by omega), hH2_, Heap.get_put, if_neg (by omega), hH1_, Heap.get_push, if_neg (by omega)]⟩
theorem step_li {H : Heap} {M W n : Nat} {R Wd : List Int} {C k rd ra rb pl : Nat} {is : List Ins5} { im xa xb : Int} (hk : is[k]? = some (1, (rd : Int), (ra : Int), (rb : Int), im)) (hkl : k < is.length) (hk2 : k < 4611686018427387904) (hrd : rd < 16) (hra : ra < 16) (hrb : rb < 16) (hi0 : 0 ≤ im) (hi1 : im < 4294967296) (ea : R[ra]? = some xa) (eb : R[rb]? = some xb) (ha0 : 0 ≤ xa) (ha1 : xa < 18446744073709551616) (hb0 : 0 ≤ xb) (hb1 : xb < 18446744073709551616) (hpl : IntKind.u64.wrap (xa + im) = ((pl : Nat) : Int)) (hpl2 : pl < 18446744073709551616) (hn : n ≤ 65536) (hWl : Wd.length = n) (gC : H.get C = some ⟨insC is, 48, false⟩) (hC : C < H.n) (hMC : M ≠ C) (hWC : W ≠ C) (gM : H.get M = some ⟨macC R W n (.slice (some ⟨C, 0, none⟩) is.length (unk + 5)) (k : Int), 62, false⟩) (gW : H.get W = some ⟨Wd.map (Value.int .u32), 30, false⟩) (hR : R.length = 16) (hMW : M ≠ W) (hM : M < H.n) (hW : W < H.n)  : ACall Try.prog T8 21 #[.pointer (some ⟨M, 0, none⟩)] H fun r H' => r = .int .i64 0 ∧ MTo H H' 62 M W n (.slice (some ⟨C, 0, none⟩) is.length (unk + 5)) (R.set rd im) Wd ((k + 1 : Nat) : Int) := by
  refine acall_cf 144 (initTm 0 #[.pointer (some ⟨M, 0, none⟩)]) rfl f21_fn f21_body rfl rfl ?_
  refine cf_go 11 ?_
  refine cf_val 11 (.int .i64 ((k : Nat) : Int)) H (by kernel_rfl) ((by kernel_rfl : _ = val (aload T8 3 (.pointer (some ⟨M, 18, none⟩)) H) H).trans (val_of ((aload_at gM).trans (aloadC_cellB (n := 1) (by kernel_rfl) (by kernel_rfl) (mc_18 hR))))) ?_
  refine cf_go 1 ?_
  refine cf_see 12 (.bool false) (see_bool (by kernel_rfl) ((decide_eq_false (by omega)) : ((decide (((k : Nat) : Int) < 0))) = false)) ?_
  refine cf_go 4 ?_
  refine cf_val 17 (.int .i64 ((k : Nat) : Int)) H (by kernel_rfl) ((by kernel_rfl : _ = val (aload T8 3 (.pointer (some ⟨M, 18, none⟩)) H) H).trans (val_of ((aload_at gM).trans (aloadC_cellB (n := 1) (by kernel_rfl) (by kernel_rfl) (mc_18 hR))))) ?_
  refine cf_go 3 ?_
  refine cf_val 21 (.slice (some ⟨C, 0, none⟩) is.length (unk + 5)) H (by kernel_rfl) ((by kernel_rfl : _ = val (aload T8 22 (.pointer (some ⟨M, 17, none⟩)) H) H).trans (val_of ((aload_at gM).trans (aloadC_cellB (n := 1) (by kernel_rfl) (by kernel_rfl) (mc_17 hR))))) ?_
  refine cf_go 2 ?_
  refine cf_see 23 (.bool false) (see_bool (by kernel_rfl) ((decide_eq_false (by omega)) : ((decide (((k : Nat) : Int) ≥ ((is.length : Nat) : Int)))) = false)) ?_
  refine cf_go 11 ?_
  refine cf_val 28 (.slice (some ⟨C, 0, none⟩) is.length (unk + 5)) H (by kernel_rfl) ((by kernel_rfl : _ = val (aload T8 22 (.pointer (some ⟨M, 17, none⟩)) H) H).trans (val_of ((aload_at gM).trans (aloadC_cellB (n := 1) (by kernel_rfl) (by kernel_rfl) (mc_17 hR))))) ?_
  refine cf_go 3 ?_
  refine cf_val 32 (.int .i64 ((k : Nat) : Int)) H (by kernel_rfl) ((by kernel_rfl : _ = val (aload T8 3 (.pointer (some ⟨M, 18, none⟩)) H) H).trans (val_of ((aload_at gM).trans (aloadC_cellB (n := 1) (by kernel_rfl) (by kernel_rfl) (mc_18 hR))))) ?_
  refine cf_val 33 (.pointer (some ⟨C, 0 + k * 5, none⟩)) H (by kernel_rfl) ((by kernel_rfl : _ = val (bif (k : Nat).blt is.length then some (.pointer (some ⟨C, 0 + k * 5, none⟩)) else none) H).trans (by rw [show (k : Nat).blt is.length = true from (by rw [blt_dec]; simp only [decide_eq_true_eq]; omega)]; rfl)) ?_
  refine cf_val 34 (.agg #[.int .i64 1, .int .i64 ((rd : Nat) : Int), .int .i64 ((ra : Nat) : Int), .int .i64 ((rb : Nat) : Int), .int .u32 im]) H (by kernel_rfl) ((by kernel_rfl : _ = val (aload T8 48 (.pointer (some ⟨C, 0 + k * 5, none⟩)) H) H).trans (val_of ((aload_at gC).trans (aloadC_rowB (n := 5) (l := [Value.int .i64 1, .int .i64 ((rd : Nat) : Int), .int .i64 ((ra : Nat) : Int), .int .i64 ((rb : Nat) : Int), .int .u32 im]) (by kernel_rfl) (by kernel_rfl) rfl (insC_at is k _ hk))))) ?_
  obtain ⟨H1_, hH1_⟩ : ∃ x : Heap, x = H.push ⟨[Value.int .i64 0, .int .i64 0, .int .i64 0, .int .i64 0, .int .u32 0], 48, false⟩ := ⟨_, rfl⟩
  have nH1_ : H1_.n = H.n + 1 := by rw [hH1_]; rfl
  refine cf_val 3 (.pointer (some ⟨H.n, 0, none⟩)) H1_ (by kernel_rfl) ((by kernel_rfl : _ = some (Res.val (.pointer (some ⟨H.n, 0, none⟩)), H.push ⟨[Value.int .i64 0, .int .i64 0, .int .i64 0, .int .i64 0, .int .u32 0], 48, false⟩)).trans (by rw [← hH1_])) ?_
  have gH1_H_n : H1_.get (H.n) = some ⟨[Value.int .i64 0, .int .i64 0, .int .i64 0, .int .i64 0, .int .u32 0], 48, false⟩ := by rw [hH1_]; exact (Heap.get_push _ _ _).trans (if_pos rfl)
  obtain ⟨H2_, hH2_⟩ : ∃ x : Heap, x = H1_.put (H.n) ⟨[Value.int .i64 1, .int .i64 ((rd : Nat) : Int), .int .i64 ((ra : Nat) : Int), .int .i64 ((rb : Nat) : Int), .int .u32 im], 48, false⟩ := ⟨_, rfl⟩
  have nH2_ : H2_.n = H1_.n := by rw [hH2_]; rfl
  refine cf_skip H2_ (by kernel_rfl) ((by kernel_rfl : _ = skp (astore T8 48 (.pointer (some ⟨H.n, 0, none⟩)) (.agg #[.int .i64 1, .int .i64 ((rd : Nat) : Int), .int .i64 ((ra : Nat) : Int), .int .i64 ((rb : Nat) : Int), .int .u32 im]) H1_)).trans (by rw [astore_to gH1_H_n (by kernel_rfl), ← hH2_]; rfl)) ?_
  refine cf_go 6 ?_
  have gH2_H_n : H2_.get (H.n) = some ⟨[Value.int .i64 1, .int .i64 ((rd : Nat) : Int), .int .i64 ((ra : Nat) : Int), .int .i64 ((rb : Nat) : Int), .int .u32 im], 48, false⟩ := by rw [hH2_]; exact (Heap.get_put _ _ _ _).trans (if_pos rfl)
  refine cf_val 37 (.int .i64 ((ra : Nat) : Int)) H2_ (by kernel_rfl) ((by kernel_rfl : _ = val (aload T8 3 (.pointer (some ⟨H.n, 2, none⟩)) H2_) H2_).trans (val_of ((aload_at gH2_H_n).trans (by kernel_rfl)))) ?_
  refine cf_go 2 ?_
  refine cf_val 40 (.pointer (some ⟨M, 0 + ra * 1, none⟩)) H2_ (by kernel_rfl) ((by kernel_rfl : _ = val (bif (ra : Nat).blt 16 then some (.pointer (some ⟨M, 0 + ra * 1, none⟩)) else none) H2_).trans (by rw [show (ra : Nat).blt 16 = true from (by rw [blt_dec]; simp only [decide_eq_true_eq]; omega)]; rfl)) ?_
  have gH2_M : H2_.get (M) = some ⟨(R.map (Value.int .u64) ++ [Value.slice (some ⟨W, 0, none⟩) n n, .slice (some ⟨C, 0, none⟩) is.length (unk + 5), .int .i64 ((k : Nat) : Int)]), 62, false⟩ := by rw [hH2_, Heap.get_put, if_neg (by omega)]; rw [hH1_, Heap.get_push, if_neg (by omega)]; exact gM
  refine cf_val 41 (.int .u64 xa) H2_ (by kernel_rfl) ((by kernel_rfl : _ = val (aload T8 42 (.pointer (some ⟨M, 0 + ra * 1, none⟩)) H2_) H2_).trans (val_of ((aload_at gH2_M).trans (aloadC_cellB (n := 1) (by kernel_rfl) (by kernel_rfl) (mc_r ea))))) ?_
  refine cf_go 2 ?_
  refine cf_val 44 (.int .i64 ((rb : Nat) : Int)) H2_ (by kernel_rfl) ((by kernel_rfl : _ = val (aload T8 3 (.pointer (some ⟨H.n, 3, none⟩)) H2_) H2_).trans (val_of ((aload_at gH2_H_n).trans (by kernel_rfl)))) ?_
  refine cf_go 2 ?_
  refine cf_val 47 (.pointer (some ⟨M, 0 + rb * 1, none⟩)) H2_ (by kernel_rfl) ((by kernel_rfl : _ = val (bif (rb : Nat).blt 16 then some (.pointer (some ⟨M, 0 + rb * 1, none⟩)) else none) H2_).trans (by rw [show (rb : Nat).blt 16 = true from (by rw [blt_dec]; simp only [decide_eq_true_eq]; omega)]; rfl)) ?_
  refine cf_val 48 (.int .u64 xb) H2_ (by kernel_rfl) ((by kernel_rfl : _ = val (aload T8 42 (.pointer (some ⟨M, 0 + rb * 1, none⟩)) H2_) H2_).trans (val_of ((aload_at gH2_M).trans (aloadC_cellB (n := 1) (by kernel_rfl) (by kernel_rfl) (mc_r eb))))) ?_
  refine cf_go 8 ?_
  refine cf_val 51 (.int .u32 im) H2_ (by kernel_rfl) ((by kernel_rfl : _ = val (aload T8 30 (.pointer (some ⟨H.n, 4, none⟩)) H2_) H2_).trans (val_of ((aload_at gH2_H_n).trans (by kernel_rfl)))) ?_
  refine cf_go 1 ?_
  refine cf_see 52 (.int .u64 im) (see_int (x := IntKind.u64.wrap im) (by kernel_rfl) (wu64 rfl (by omega) (by omega))) ?_
  refine cf_go 1 ?_
  refine cf_see 53 (.int .u64 ((pl : Nat) : Int)) (see_int (x := (IntKind.u64.wrap (xa + im))) (by kernel_rfl) hpl) ?_
  refine cf_go 8 ?_
  refine cf_val 57 (.int .i64 ((k : Nat) : Int)) H2_ (by kernel_rfl) ((by kernel_rfl : _ = val (aload T8 3 (.pointer (some ⟨M, 18, none⟩)) H2_) H2_).trans (val_of ((aload_at gH2_M).trans (aloadC_cellB (n := 1) (by kernel_rfl) (by kernel_rfl) (mc_18 hR))))) ?_
  refine cf_go 1 ?_
  refine cf_see 58 (.int .i64 ((k + 1 : Nat) : Int)) (see_int (x := (IntKind.i64.wrap (((k : Nat) : Int) + 1))) (by kernel_rfl) (w64 (by omega) (by omega) (by omega))) ?_
  refine cf_go 7 ?_
  refine cf_val 60 (.int .i64 1) H2_ (by kernel_rfl) ((by kernel_rfl : _ = val (aload T8 3 (.pointer (some ⟨H.n, 0, none⟩)) H2_) H2_).trans (val_of ((aload_at gH2_H_n).trans (by kernel_rfl)))) ?_
  refine cf_go 20 ?_
  refine cf_val 78 (.int .i64 ((rd : Nat) : Int)) H2_ (by kernel_rfl) ((by kernel_rfl : _ = val (aload T8 3 (.pointer (some ⟨H.n, 1, none⟩)) H2_) H2_).trans (val_of ((aload_at gH2_H_n).trans (by kernel_rfl)))) ?_
  refine cf_go 1 ?_
  refine cf_val 80 (.int .u32 im) H2_ (by kernel_rfl) ((by kernel_rfl : _ = val (aload T8 30 (.pointer (some ⟨H.n, 4, none⟩)) H2_) H2_).trans (val_of ((aload_at gH2_H_n).trans (by kernel_rfl)))) ?_
  refine cf_go 1 ?_
  refine cf_see 81 (.int .u64 im) (see_int (x := IntKind.u64.wrap im) (by kernel_rfl) (wu64 rfl (by omega) (by omega))) ?_
  refine cf_go 2 ?_
  refine cf_val 84 (.pointer (some ⟨M, 0 + rd * 1, none⟩)) H2_ (by kernel_rfl) ((by kernel_rfl : _ = val (bif (rd : Nat).blt 16 then some (.pointer (some ⟨M, 0 + rd * 1, none⟩)) else none) H2_).trans (by rw [show (rd : Nat).blt 16 = true from (by rw [blt_dec]; simp only [decide_eq_true_eq]; omega)]; rfl)) ?_
  obtain ⟨H3_, hH3_⟩ : ∃ x : Heap, x = H2_.put (M) ⟨((R.set rd im).map (Value.int .u64) ++ [Value.slice (some ⟨W, 0, none⟩) n n, .slice (some ⟨C, 0, none⟩) is.length (unk + 5), .int .i64 ((k : Nat) : Int)]), 62, false⟩ := ⟨_, rfl⟩
  have nH3_ : H3_.n = H2_.n := by rw [hH3_]; rfl
  refine cf_skip H3_ (by kernel_rfl) ((by kernel_rfl : _ = skp (astore T8 42 (.pointer (some ⟨M, 0 + rd * 1, none⟩)) (.int .u64 im) H2_)).trans (by rw [astore_to gH2_M ((astoreC_one (by kernel_rfl) rfl rfl (by rw [ml hR]; omega)).trans (congrArg some (ms_r hR (by omega)))), ← hH3_]; rfl)) ?_
  refine cf_go 9 ?_
  have gH3_M : H3_.get (M) = some ⟨((R.set rd im).map (Value.int .u64) ++ [Value.slice (some ⟨W, 0, none⟩) n n, .slice (some ⟨C, 0, none⟩) is.length (unk + 5), .int .i64 ((k : Nat) : Int)]), 62, false⟩ := by rw [hH3_]; exact (Heap.get_put _ _ _ _).trans (if_pos rfl)
  obtain ⟨H4_, hH4_⟩ : ∃ x : Heap, x = H3_.put (M) ⟨((R.set rd im).map (Value.int .u64) ++ [Value.slice (some ⟨W, 0, none⟩) n n, .slice (some ⟨C, 0, none⟩) is.length (unk + 5), .int .i64 ((k + 1 : Nat) : Int)]), 62, false⟩ := ⟨_, rfl⟩
  have nH4_ : H4_.n = H3_.n := by rw [hH4_]; rfl
  refine cf_skip H4_ (by kernel_rfl) ((by kernel_rfl : _ = skp (astore T8 3 (.pointer (some ⟨M, 18, none⟩)) (.int .i64 ((k + 1 : Nat) : Int)) H3_)).trans (by rw [astore_to gH3_M ((astoreC_one (by kernel_rfl) rfl rfl (by rw [ml ((List.length_set ..).trans hR)]; omega)).trans (congrArg some (ms_18 ((List.length_set ..).trans hR)))), ← hH4_]; rfl)) ?_
  refine cf_go 8 ?_
  have gH4_M : H4_.get (M) = some ⟨((R.set rd im).map (Value.int .u64) ++ [Value.slice (some ⟨W, 0, none⟩) n n, .slice (some ⟨C, 0, none⟩) is.length (unk + 5), .int .i64 ((k + 1 : Nat) : Int)]), 62, false⟩ := by rw [hH4_]; exact (Heap.get_put _ _ _ _).trans (if_pos rfl)
  have gH4_W : H4_.get (W) = some ⟨(Wd.map (Value.int .u32)), 30, false⟩ := by rw [hH4_, Heap.get_put, if_neg (by omega)]; rw [hH3_, Heap.get_put, if_neg (by omega)]; rw [hH2_, Heap.get_put, if_neg (by omega)]; rw [hH1_, Heap.get_push, if_neg (by omega)]; exact gW
  refine cf_end (.int .i64 0) H4_ (by kernel_rfl) (by kernel_rfl) (by kernel_rfl) ?_
  exact ⟨rfl, by omega, gH4_M, gH4_W, fun b hb h1 h2 => by rw [hH4_, Heap.get_put, if_neg (by omega), hH3_, Heap.get_put, if_neg (by omega), hH2_, Heap.get_put, if_neg (by omega), hH1_, Heap.get_push, if_neg (by omega)]⟩
theorem step_ldb {H : Heap} {M W n : Nat} {R Wd : List Int} {C k rd ra rb pl : Nat} {is : List Ins5} { im xa xb : Int} (hk : is[k]? = some (14, (rd : Int), (ra : Int), (rb : Int), im)) (hkl : k < is.length) (hk2 : k < 4611686018427387904) (hrd : rd < 16) (hra : ra < 16) (hrb : rb < 16) (hi0 : 0 ≤ im) (hi1 : im < 4294967296) (ea : R[ra]? = some xa) (eb : R[rb]? = some xb) (ha0 : 0 ≤ xa) (ha1 : xa < 18446744073709551616) (hb0 : 0 ≤ xb) (hb1 : xb < 18446744073709551616) (hpl : IntKind.u64.wrap (xa + im) = ((pl : Nat) : Int)) (hpl2 : pl < 18446744073709551616) (hn : n ≤ 65536) (hWl : Wd.length = n) (gC : H.get C = some ⟨insC is, 48, false⟩) (hC : C < H.n) (hMC : M ≠ C) (hWC : W ≠ C) (gM : H.get M = some ⟨macC R W n (.slice (some ⟨C, 0, none⟩) is.length (unk + 5)) (k : Int), 62, false⟩) (gW : H.get W = some ⟨Wd.map (Value.int .u32), 30, false⟩) (hR : R.length = 16) (hMW : M ≠ W) (hM : M < H.n) (hW : W < H.n) (hp : n ≤ pl) : ACall Try.prog T8 21 #[.pointer (some ⟨M, 0, none⟩)] H fun r H' => r = .int .i64 4 ∧ MTo H H' 62 M W n (.slice (some ⟨C, 0, none⟩) is.length (unk + 5)) R Wd ((k : Nat) : Int) := by
  refine acall_cf 144 (initTm 0 #[.pointer (some ⟨M, 0, none⟩)]) rfl f21_fn f21_body rfl rfl ?_
  refine cf_go 11 ?_
  refine cf_val 11 (.int .i64 ((k : Nat) : Int)) H (by kernel_rfl) ((by kernel_rfl : _ = val (aload T8 3 (.pointer (some ⟨M, 18, none⟩)) H) H).trans (val_of ((aload_at gM).trans (aloadC_cellB (n := 1) (by kernel_rfl) (by kernel_rfl) (mc_18 hR))))) ?_
  refine cf_go 1 ?_
  refine cf_see 12 (.bool false) (see_bool (by kernel_rfl) ((decide_eq_false (by omega)) : ((decide (((k : Nat) : Int) < 0))) = false)) ?_
  refine cf_go 4 ?_
  refine cf_val 17 (.int .i64 ((k : Nat) : Int)) H (by kernel_rfl) ((by kernel_rfl : _ = val (aload T8 3 (.pointer (some ⟨M, 18, none⟩)) H) H).trans (val_of ((aload_at gM).trans (aloadC_cellB (n := 1) (by kernel_rfl) (by kernel_rfl) (mc_18 hR))))) ?_
  refine cf_go 3 ?_
  refine cf_val 21 (.slice (some ⟨C, 0, none⟩) is.length (unk + 5)) H (by kernel_rfl) ((by kernel_rfl : _ = val (aload T8 22 (.pointer (some ⟨M, 17, none⟩)) H) H).trans (val_of ((aload_at gM).trans (aloadC_cellB (n := 1) (by kernel_rfl) (by kernel_rfl) (mc_17 hR))))) ?_
  refine cf_go 2 ?_
  refine cf_see 23 (.bool false) (see_bool (by kernel_rfl) ((decide_eq_false (by omega)) : ((decide (((k : Nat) : Int) ≥ ((is.length : Nat) : Int)))) = false)) ?_
  refine cf_go 11 ?_
  refine cf_val 28 (.slice (some ⟨C, 0, none⟩) is.length (unk + 5)) H (by kernel_rfl) ((by kernel_rfl : _ = val (aload T8 22 (.pointer (some ⟨M, 17, none⟩)) H) H).trans (val_of ((aload_at gM).trans (aloadC_cellB (n := 1) (by kernel_rfl) (by kernel_rfl) (mc_17 hR))))) ?_
  refine cf_go 3 ?_
  refine cf_val 32 (.int .i64 ((k : Nat) : Int)) H (by kernel_rfl) ((by kernel_rfl : _ = val (aload T8 3 (.pointer (some ⟨M, 18, none⟩)) H) H).trans (val_of ((aload_at gM).trans (aloadC_cellB (n := 1) (by kernel_rfl) (by kernel_rfl) (mc_18 hR))))) ?_
  refine cf_val 33 (.pointer (some ⟨C, 0 + k * 5, none⟩)) H (by kernel_rfl) ((by kernel_rfl : _ = val (bif (k : Nat).blt is.length then some (.pointer (some ⟨C, 0 + k * 5, none⟩)) else none) H).trans (by rw [show (k : Nat).blt is.length = true from (by rw [blt_dec]; simp only [decide_eq_true_eq]; omega)]; rfl)) ?_
  refine cf_val 34 (.agg #[.int .i64 14, .int .i64 ((rd : Nat) : Int), .int .i64 ((ra : Nat) : Int), .int .i64 ((rb : Nat) : Int), .int .u32 im]) H (by kernel_rfl) ((by kernel_rfl : _ = val (aload T8 48 (.pointer (some ⟨C, 0 + k * 5, none⟩)) H) H).trans (val_of ((aload_at gC).trans (aloadC_rowB (n := 5) (l := [Value.int .i64 14, .int .i64 ((rd : Nat) : Int), .int .i64 ((ra : Nat) : Int), .int .i64 ((rb : Nat) : Int), .int .u32 im]) (by kernel_rfl) (by kernel_rfl) rfl (insC_at is k _ hk))))) ?_
  obtain ⟨H1_, hH1_⟩ : ∃ x : Heap, x = H.push ⟨[Value.int .i64 0, .int .i64 0, .int .i64 0, .int .i64 0, .int .u32 0], 48, false⟩ := ⟨_, rfl⟩
  have nH1_ : H1_.n = H.n + 1 := by rw [hH1_]; rfl
  refine cf_val 3 (.pointer (some ⟨H.n, 0, none⟩)) H1_ (by kernel_rfl) ((by kernel_rfl : _ = some (Res.val (.pointer (some ⟨H.n, 0, none⟩)), H.push ⟨[Value.int .i64 0, .int .i64 0, .int .i64 0, .int .i64 0, .int .u32 0], 48, false⟩)).trans (by rw [← hH1_])) ?_
  have gH1_H_n : H1_.get (H.n) = some ⟨[Value.int .i64 0, .int .i64 0, .int .i64 0, .int .i64 0, .int .u32 0], 48, false⟩ := by rw [hH1_]; exact (Heap.get_push _ _ _).trans (if_pos rfl)
  obtain ⟨H2_, hH2_⟩ : ∃ x : Heap, x = H1_.put (H.n) ⟨[Value.int .i64 14, .int .i64 ((rd : Nat) : Int), .int .i64 ((ra : Nat) : Int), .int .i64 ((rb : Nat) : Int), .int .u32 im], 48, false⟩ := ⟨_, rfl⟩
  have nH2_ : H2_.n = H1_.n := by rw [hH2_]; rfl
  refine cf_skip H2_ (by kernel_rfl) ((by kernel_rfl : _ = skp (astore T8 48 (.pointer (some ⟨H.n, 0, none⟩)) (.agg #[.int .i64 14, .int .i64 ((rd : Nat) : Int), .int .i64 ((ra : Nat) : Int), .int .i64 ((rb : Nat) : Int), .int .u32 im]) H1_)).trans (by rw [astore_to gH1_H_n (by kernel_rfl), ← hH2_]; rfl)) ?_
  refine cf_go 6 ?_
  have gH2_H_n : H2_.get (H.n) = some ⟨[Value.int .i64 14, .int .i64 ((rd : Nat) : Int), .int .i64 ((ra : Nat) : Int), .int .i64 ((rb : Nat) : Int), .int .u32 im], 48, false⟩ := by rw [hH2_]; exact (Heap.get_put _ _ _ _).trans (if_pos rfl)
  refine cf_val 37 (.int .i64 ((ra : Nat) : Int)) H2_ (by kernel_rfl) ((by kernel_rfl : _ = val (aload T8 3 (.pointer (some ⟨H.n, 2, none⟩)) H2_) H2_).trans (val_of ((aload_at gH2_H_n).trans (by kernel_rfl)))) ?_
  refine cf_go 2 ?_
  refine cf_val 40 (.pointer (some ⟨M, 0 + ra * 1, none⟩)) H2_ (by kernel_rfl) ((by kernel_rfl : _ = val (bif (ra : Nat).blt 16 then some (.pointer (some ⟨M, 0 + ra * 1, none⟩)) else none) H2_).trans (by rw [show (ra : Nat).blt 16 = true from (by rw [blt_dec]; simp only [decide_eq_true_eq]; omega)]; rfl)) ?_
  have gH2_M : H2_.get (M) = some ⟨(R.map (Value.int .u64) ++ [Value.slice (some ⟨W, 0, none⟩) n n, .slice (some ⟨C, 0, none⟩) is.length (unk + 5), .int .i64 ((k : Nat) : Int)]), 62, false⟩ := by rw [hH2_, Heap.get_put, if_neg (by omega)]; rw [hH1_, Heap.get_push, if_neg (by omega)]; exact gM
  refine cf_val 41 (.int .u64 xa) H2_ (by kernel_rfl) ((by kernel_rfl : _ = val (aload T8 42 (.pointer (some ⟨M, 0 + ra * 1, none⟩)) H2_) H2_).trans (val_of ((aload_at gH2_M).trans (aloadC_cellB (n := 1) (by kernel_rfl) (by kernel_rfl) (mc_r ea))))) ?_
  refine cf_go 2 ?_
  refine cf_val 44 (.int .i64 ((rb : Nat) : Int)) H2_ (by kernel_rfl) ((by kernel_rfl : _ = val (aload T8 3 (.pointer (some ⟨H.n, 3, none⟩)) H2_) H2_).trans (val_of ((aload_at gH2_H_n).trans (by kernel_rfl)))) ?_
  refine cf_go 2 ?_
  refine cf_val 47 (.pointer (some ⟨M, 0 + rb * 1, none⟩)) H2_ (by kernel_rfl) ((by kernel_rfl : _ = val (bif (rb : Nat).blt 16 then some (.pointer (some ⟨M, 0 + rb * 1, none⟩)) else none) H2_).trans (by rw [show (rb : Nat).blt 16 = true from (by rw [blt_dec]; simp only [decide_eq_true_eq]; omega)]; rfl)) ?_
  refine cf_val 48 (.int .u64 xb) H2_ (by kernel_rfl) ((by kernel_rfl : _ = val (aload T8 42 (.pointer (some ⟨M, 0 + rb * 1, none⟩)) H2_) H2_).trans (val_of ((aload_at gH2_M).trans (aloadC_cellB (n := 1) (by kernel_rfl) (by kernel_rfl) (mc_r eb))))) ?_
  refine cf_go 8 ?_
  refine cf_val 51 (.int .u32 im) H2_ (by kernel_rfl) ((by kernel_rfl : _ = val (aload T8 30 (.pointer (some ⟨H.n, 4, none⟩)) H2_) H2_).trans (val_of ((aload_at gH2_H_n).trans (by kernel_rfl)))) ?_
  refine cf_go 1 ?_
  refine cf_see 52 (.int .u64 im) (see_int (x := IntKind.u64.wrap im) (by kernel_rfl) (wu64 rfl (by omega) (by omega))) ?_
  refine cf_go 1 ?_
  refine cf_see 53 (.int .u64 ((pl : Nat) : Int)) (see_int (x := (IntKind.u64.wrap (xa + im))) (by kernel_rfl) hpl) ?_
  refine cf_go 8 ?_
  refine cf_val 57 (.int .i64 ((k : Nat) : Int)) H2_ (by kernel_rfl) ((by kernel_rfl : _ = val (aload T8 3 (.pointer (some ⟨M, 18, none⟩)) H2_) H2_).trans (val_of ((aload_at gH2_M).trans (aloadC_cellB (n := 1) (by kernel_rfl) (by kernel_rfl) (mc_18 hR))))) ?_
  refine cf_go 1 ?_
  refine cf_see 58 (.int .i64 ((k + 1 : Nat) : Int)) (see_int (x := (IntKind.i64.wrap (((k : Nat) : Int) + 1))) (by kernel_rfl) (w64 (by omega) (by omega) (by omega))) ?_
  refine cf_go 7 ?_
  refine cf_val 60 (.int .i64 14) H2_ (by kernel_rfl) ((by kernel_rfl : _ = val (aload T8 3 (.pointer (some ⟨H.n, 0, none⟩)) H2_) H2_).trans (val_of ((aload_at gH2_H_n).trans (by kernel_rfl)))) ?_
  refine cf_go 35 ?_
  refine cf_val 92 (.slice (some ⟨W, 0, none⟩) n n) H2_ (by kernel_rfl) ((by kernel_rfl : _ = val (aload T8 56 (.pointer (some ⟨M, 16, none⟩)) H2_) H2_).trans (val_of ((aload_at gH2_M).trans (aloadC_cellB (n := 1) (by kernel_rfl) (by kernel_rfl) (mc_16 hR))))) ?_
  refine cf_go 2 ?_
  refine cf_see 94 (.int .u64 ((n : Nat) : Int)) (see_int (x := IntKind.u64.wrap ((n : Nat) : Int)) (by kernel_rfl) (wu64 rfl (by omega) (by omega))) ?_
  refine cf_go 1 ?_
  refine cf_see 95 (.bool true) (see_bool (by kernel_rfl) ((decide_eq_true (by omega)) : ((decide (((pl : Nat) : Int) ≥ ((n : Nat) : Int)))) = true)) ?_
  refine cf_go 12 ?_
  have gH2_W : H2_.get (W) = some ⟨(Wd.map (Value.int .u32)), 30, false⟩ := by rw [hH2_, Heap.get_put, if_neg (by omega)]; rw [hH1_, Heap.get_push, if_neg (by omega)]; exact gW
  refine cf_end (.int .i64 4) H2_ (by kernel_rfl) (by kernel_rfl) (by kernel_rfl) ?_
  exact ⟨rfl, by omega, gH2_M, gH2_W, fun b hb h1 h2 => by rw [hH2_, Heap.get_put, if_neg (by omega), hH1_, Heap.get_push, if_neg (by omega)]⟩
theorem step_ld {H : Heap} {M W n : Nat} {R Wd : List Int} {C k rd ra rb pl : Nat} {is : List Ins5} { im xa xb : Int} (hk : is[k]? = some (14, (rd : Int), (ra : Int), (rb : Int), im)) (hkl : k < is.length) (hk2 : k < 4611686018427387904) (hrd : rd < 16) (hra : ra < 16) (hrb : rb < 16) (hi0 : 0 ≤ im) (hi1 : im < 4294967296) (ea : R[ra]? = some xa) (eb : R[rb]? = some xb) (ha0 : 0 ≤ xa) (ha1 : xa < 18446744073709551616) (hb0 : 0 ≤ xb) (hb1 : xb < 18446744073709551616) (hpl : IntKind.u64.wrap (xa + im) = ((pl : Nat) : Int)) (hpl2 : pl < 18446744073709551616) (hn : n ≤ 65536) (hWl : Wd.length = n) (gC : H.get C = some ⟨insC is, 48, false⟩) (hC : C < H.n) (hMC : M ≠ C) (hWC : W ≠ C) (gM : H.get M = some ⟨macC R W n (.slice (some ⟨C, 0, none⟩) is.length (unk + 5)) (k : Int), 62, false⟩) (gW : H.get W = some ⟨Wd.map (Value.int .u32), 30, false⟩) (hR : R.length = 16) (hMW : M ≠ W) (hM : M < H.n) (hW : W < H.n) {wv : Int} (hp : pl < n) (ew : Wd[pl]? = some wv) (hw0 : 0 ≤ wv) (hw1 : wv < 4294967296) : ACall Try.prog T8 21 #[.pointer (some ⟨M, 0, none⟩)] H fun r H' => r = .int .i64 0 ∧ MTo H H' 62 M W n (.slice (some ⟨C, 0, none⟩) is.length (unk + 5)) (R.set rd wv) Wd ((k + 1 : Nat) : Int) := by
  refine acall_cf 144 (initTm 0 #[.pointer (some ⟨M, 0, none⟩)]) rfl f21_fn f21_body rfl rfl ?_
  refine cf_go 11 ?_
  refine cf_val 11 (.int .i64 ((k : Nat) : Int)) H (by kernel_rfl) ((by kernel_rfl : _ = val (aload T8 3 (.pointer (some ⟨M, 18, none⟩)) H) H).trans (val_of ((aload_at gM).trans (aloadC_cellB (n := 1) (by kernel_rfl) (by kernel_rfl) (mc_18 hR))))) ?_
  refine cf_go 1 ?_
  refine cf_see 12 (.bool false) (see_bool (by kernel_rfl) ((decide_eq_false (by omega)) : ((decide (((k : Nat) : Int) < 0))) = false)) ?_
  refine cf_go 4 ?_
  refine cf_val 17 (.int .i64 ((k : Nat) : Int)) H (by kernel_rfl) ((by kernel_rfl : _ = val (aload T8 3 (.pointer (some ⟨M, 18, none⟩)) H) H).trans (val_of ((aload_at gM).trans (aloadC_cellB (n := 1) (by kernel_rfl) (by kernel_rfl) (mc_18 hR))))) ?_
  refine cf_go 3 ?_
  refine cf_val 21 (.slice (some ⟨C, 0, none⟩) is.length (unk + 5)) H (by kernel_rfl) ((by kernel_rfl : _ = val (aload T8 22 (.pointer (some ⟨M, 17, none⟩)) H) H).trans (val_of ((aload_at gM).trans (aloadC_cellB (n := 1) (by kernel_rfl) (by kernel_rfl) (mc_17 hR))))) ?_
  refine cf_go 2 ?_
  refine cf_see 23 (.bool false) (see_bool (by kernel_rfl) ((decide_eq_false (by omega)) : ((decide (((k : Nat) : Int) ≥ ((is.length : Nat) : Int)))) = false)) ?_
  refine cf_go 11 ?_
  refine cf_val 28 (.slice (some ⟨C, 0, none⟩) is.length (unk + 5)) H (by kernel_rfl) ((by kernel_rfl : _ = val (aload T8 22 (.pointer (some ⟨M, 17, none⟩)) H) H).trans (val_of ((aload_at gM).trans (aloadC_cellB (n := 1) (by kernel_rfl) (by kernel_rfl) (mc_17 hR))))) ?_
  refine cf_go 3 ?_
  refine cf_val 32 (.int .i64 ((k : Nat) : Int)) H (by kernel_rfl) ((by kernel_rfl : _ = val (aload T8 3 (.pointer (some ⟨M, 18, none⟩)) H) H).trans (val_of ((aload_at gM).trans (aloadC_cellB (n := 1) (by kernel_rfl) (by kernel_rfl) (mc_18 hR))))) ?_
  refine cf_val 33 (.pointer (some ⟨C, 0 + k * 5, none⟩)) H (by kernel_rfl) ((by kernel_rfl : _ = val (bif (k : Nat).blt is.length then some (.pointer (some ⟨C, 0 + k * 5, none⟩)) else none) H).trans (by rw [show (k : Nat).blt is.length = true from (by rw [blt_dec]; simp only [decide_eq_true_eq]; omega)]; rfl)) ?_
  refine cf_val 34 (.agg #[.int .i64 14, .int .i64 ((rd : Nat) : Int), .int .i64 ((ra : Nat) : Int), .int .i64 ((rb : Nat) : Int), .int .u32 im]) H (by kernel_rfl) ((by kernel_rfl : _ = val (aload T8 48 (.pointer (some ⟨C, 0 + k * 5, none⟩)) H) H).trans (val_of ((aload_at gC).trans (aloadC_rowB (n := 5) (l := [Value.int .i64 14, .int .i64 ((rd : Nat) : Int), .int .i64 ((ra : Nat) : Int), .int .i64 ((rb : Nat) : Int), .int .u32 im]) (by kernel_rfl) (by kernel_rfl) rfl (insC_at is k _ hk))))) ?_
  obtain ⟨H1_, hH1_⟩ : ∃ x : Heap, x = H.push ⟨[Value.int .i64 0, .int .i64 0, .int .i64 0, .int .i64 0, .int .u32 0], 48, false⟩ := ⟨_, rfl⟩
  have nH1_ : H1_.n = H.n + 1 := by rw [hH1_]; rfl
  refine cf_val 3 (.pointer (some ⟨H.n, 0, none⟩)) H1_ (by kernel_rfl) ((by kernel_rfl : _ = some (Res.val (.pointer (some ⟨H.n, 0, none⟩)), H.push ⟨[Value.int .i64 0, .int .i64 0, .int .i64 0, .int .i64 0, .int .u32 0], 48, false⟩)).trans (by rw [← hH1_])) ?_
  have gH1_H_n : H1_.get (H.n) = some ⟨[Value.int .i64 0, .int .i64 0, .int .i64 0, .int .i64 0, .int .u32 0], 48, false⟩ := by rw [hH1_]; exact (Heap.get_push _ _ _).trans (if_pos rfl)
  obtain ⟨H2_, hH2_⟩ : ∃ x : Heap, x = H1_.put (H.n) ⟨[Value.int .i64 14, .int .i64 ((rd : Nat) : Int), .int .i64 ((ra : Nat) : Int), .int .i64 ((rb : Nat) : Int), .int .u32 im], 48, false⟩ := ⟨_, rfl⟩
  have nH2_ : H2_.n = H1_.n := by rw [hH2_]; rfl
  refine cf_skip H2_ (by kernel_rfl) ((by kernel_rfl : _ = skp (astore T8 48 (.pointer (some ⟨H.n, 0, none⟩)) (.agg #[.int .i64 14, .int .i64 ((rd : Nat) : Int), .int .i64 ((ra : Nat) : Int), .int .i64 ((rb : Nat) : Int), .int .u32 im]) H1_)).trans (by rw [astore_to gH1_H_n (by kernel_rfl), ← hH2_]; rfl)) ?_
  refine cf_go 6 ?_
  have gH2_H_n : H2_.get (H.n) = some ⟨[Value.int .i64 14, .int .i64 ((rd : Nat) : Int), .int .i64 ((ra : Nat) : Int), .int .i64 ((rb : Nat) : Int), .int .u32 im], 48, false⟩ := by rw [hH2_]; exact (Heap.get_put _ _ _ _).trans (if_pos rfl)
  refine cf_val 37 (.int .i64 ((ra : Nat) : Int)) H2_ (by kernel_rfl) ((by kernel_rfl : _ = val (aload T8 3 (.pointer (some ⟨H.n, 2, none⟩)) H2_) H2_).trans (val_of ((aload_at gH2_H_n).trans (by kernel_rfl)))) ?_
  refine cf_go 2 ?_
  refine cf_val 40 (.pointer (some ⟨M, 0 + ra * 1, none⟩)) H2_ (by kernel_rfl) ((by kernel_rfl : _ = val (bif (ra : Nat).blt 16 then some (.pointer (some ⟨M, 0 + ra * 1, none⟩)) else none) H2_).trans (by rw [show (ra : Nat).blt 16 = true from (by rw [blt_dec]; simp only [decide_eq_true_eq]; omega)]; rfl)) ?_
  have gH2_M : H2_.get (M) = some ⟨(R.map (Value.int .u64) ++ [Value.slice (some ⟨W, 0, none⟩) n n, .slice (some ⟨C, 0, none⟩) is.length (unk + 5), .int .i64 ((k : Nat) : Int)]), 62, false⟩ := by rw [hH2_, Heap.get_put, if_neg (by omega)]; rw [hH1_, Heap.get_push, if_neg (by omega)]; exact gM
  refine cf_val 41 (.int .u64 xa) H2_ (by kernel_rfl) ((by kernel_rfl : _ = val (aload T8 42 (.pointer (some ⟨M, 0 + ra * 1, none⟩)) H2_) H2_).trans (val_of ((aload_at gH2_M).trans (aloadC_cellB (n := 1) (by kernel_rfl) (by kernel_rfl) (mc_r ea))))) ?_
  refine cf_go 2 ?_
  refine cf_val 44 (.int .i64 ((rb : Nat) : Int)) H2_ (by kernel_rfl) ((by kernel_rfl : _ = val (aload T8 3 (.pointer (some ⟨H.n, 3, none⟩)) H2_) H2_).trans (val_of ((aload_at gH2_H_n).trans (by kernel_rfl)))) ?_
  refine cf_go 2 ?_
  refine cf_val 47 (.pointer (some ⟨M, 0 + rb * 1, none⟩)) H2_ (by kernel_rfl) ((by kernel_rfl : _ = val (bif (rb : Nat).blt 16 then some (.pointer (some ⟨M, 0 + rb * 1, none⟩)) else none) H2_).trans (by rw [show (rb : Nat).blt 16 = true from (by rw [blt_dec]; simp only [decide_eq_true_eq]; omega)]; rfl)) ?_
  refine cf_val 48 (.int .u64 xb) H2_ (by kernel_rfl) ((by kernel_rfl : _ = val (aload T8 42 (.pointer (some ⟨M, 0 + rb * 1, none⟩)) H2_) H2_).trans (val_of ((aload_at gH2_M).trans (aloadC_cellB (n := 1) (by kernel_rfl) (by kernel_rfl) (mc_r eb))))) ?_
  refine cf_go 8 ?_
  refine cf_val 51 (.int .u32 im) H2_ (by kernel_rfl) ((by kernel_rfl : _ = val (aload T8 30 (.pointer (some ⟨H.n, 4, none⟩)) H2_) H2_).trans (val_of ((aload_at gH2_H_n).trans (by kernel_rfl)))) ?_
  refine cf_go 1 ?_
  refine cf_see 52 (.int .u64 im) (see_int (x := IntKind.u64.wrap im) (by kernel_rfl) (wu64 rfl (by omega) (by omega))) ?_
  refine cf_go 1 ?_
  refine cf_see 53 (.int .u64 ((pl : Nat) : Int)) (see_int (x := (IntKind.u64.wrap (xa + im))) (by kernel_rfl) hpl) ?_
  refine cf_go 8 ?_
  refine cf_val 57 (.int .i64 ((k : Nat) : Int)) H2_ (by kernel_rfl) ((by kernel_rfl : _ = val (aload T8 3 (.pointer (some ⟨M, 18, none⟩)) H2_) H2_).trans (val_of ((aload_at gH2_M).trans (aloadC_cellB (n := 1) (by kernel_rfl) (by kernel_rfl) (mc_18 hR))))) ?_
  refine cf_go 1 ?_
  refine cf_see 58 (.int .i64 ((k + 1 : Nat) : Int)) (see_int (x := (IntKind.i64.wrap (((k : Nat) : Int) + 1))) (by kernel_rfl) (w64 (by omega) (by omega) (by omega))) ?_
  refine cf_go 7 ?_
  refine cf_val 60 (.int .i64 14) H2_ (by kernel_rfl) ((by kernel_rfl : _ = val (aload T8 3 (.pointer (some ⟨H.n, 0, none⟩)) H2_) H2_).trans (val_of ((aload_at gH2_H_n).trans (by kernel_rfl)))) ?_
  refine cf_go 35 ?_
  refine cf_val 92 (.slice (some ⟨W, 0, none⟩) n n) H2_ (by kernel_rfl) ((by kernel_rfl : _ = val (aload T8 56 (.pointer (some ⟨M, 16, none⟩)) H2_) H2_).trans (val_of ((aload_at gH2_M).trans (aloadC_cellB (n := 1) (by kernel_rfl) (by kernel_rfl) (mc_16 hR))))) ?_
  refine cf_go 2 ?_
  refine cf_see 94 (.int .u64 ((n : Nat) : Int)) (see_int (x := IntKind.u64.wrap ((n : Nat) : Int)) (by kernel_rfl) (wu64 rfl (by omega) (by omega))) ?_
  refine cf_go 1 ?_
  refine cf_see 95 (.bool false) (see_bool (by kernel_rfl) ((decide_eq_false (by omega)) : ((decide (((pl : Nat) : Int) ≥ ((n : Nat) : Int)))) = false)) ?_
  refine cf_go 8 ?_
  refine cf_val 97 (.int .i64 14) H2_ (by kernel_rfl) ((by kernel_rfl : _ = val (aload T8 3 (.pointer (some ⟨H.n, 0, none⟩)) H2_) H2_).trans (val_of ((aload_at gH2_H_n).trans (by kernel_rfl)))) ?_
  refine cf_go 7 ?_
  refine cf_val 101 (.int .i64 ((rd : Nat) : Int)) H2_ (by kernel_rfl) ((by kernel_rfl : _ = val (aload T8 3 (.pointer (some ⟨H.n, 1, none⟩)) H2_) H2_).trans (val_of ((aload_at gH2_H_n).trans (by kernel_rfl)))) ?_
  refine cf_go 3 ?_
  refine cf_val 105 (.slice (some ⟨W, 0, none⟩) n n) H2_ (by kernel_rfl) ((by kernel_rfl : _ = val (aload T8 56 (.pointer (some ⟨M, 16, none⟩)) H2_) H2_).trans (val_of ((aload_at gH2_M).trans (aloadC_cellB (n := 1) (by kernel_rfl) (by kernel_rfl) (mc_16 hR))))) ?_
  refine cf_go 1 ?_
  refine cf_val 107 (.pointer (some ⟨W, 0 + pl * 1, none⟩)) H2_ (by kernel_rfl) ((by kernel_rfl : _ = val (bif (pl : Nat).blt n then some (.pointer (some ⟨W, 0 + pl * 1, none⟩)) else none) H2_).trans (by rw [show (pl : Nat).blt n = true from (by rw [blt_dec]; simp only [decide_eq_true_eq]; omega)]; rfl)) ?_
  have gH2_W : H2_.get (W) = some ⟨(Wd.map (Value.int .u32)), 30, false⟩ := by rw [hH2_, Heap.get_put, if_neg (by omega)]; rw [hH1_, Heap.get_push, if_neg (by omega)]; exact gW
  refine cf_val 108 (.int .u32 wv) H2_ (by kernel_rfl) ((by kernel_rfl : _ = val (aload T8 30 (.pointer (some ⟨W, 0 + pl * 1, none⟩)) H2_) H2_).trans (val_of ((aload_at gH2_W).trans (aloadC_cellB (n := 1) (by kernel_rfl) (by kernel_rfl) (mw_r ew))))) ?_
  refine cf_go 1 ?_
  refine cf_see 109 (.int .u64 wv) (see_int (x := IntKind.u64.wrap wv) (by kernel_rfl) (wu64 rfl (by omega) (by omega))) ?_
  refine cf_go 2 ?_
  refine cf_val 112 (.pointer (some ⟨M, 0 + rd * 1, none⟩)) H2_ (by kernel_rfl) ((by kernel_rfl : _ = val (bif (rd : Nat).blt 16 then some (.pointer (some ⟨M, 0 + rd * 1, none⟩)) else none) H2_).trans (by rw [show (rd : Nat).blt 16 = true from (by rw [blt_dec]; simp only [decide_eq_true_eq]; omega)]; rfl)) ?_
  obtain ⟨H3_, hH3_⟩ : ∃ x : Heap, x = H2_.put (M) ⟨((R.set rd wv).map (Value.int .u64) ++ [Value.slice (some ⟨W, 0, none⟩) n n, .slice (some ⟨C, 0, none⟩) is.length (unk + 5), .int .i64 ((k : Nat) : Int)]), 62, false⟩ := ⟨_, rfl⟩
  have nH3_ : H3_.n = H2_.n := by rw [hH3_]; rfl
  refine cf_skip H3_ (by kernel_rfl) ((by kernel_rfl : _ = skp (astore T8 42 (.pointer (some ⟨M, 0 + rd * 1, none⟩)) (.int .u64 wv) H2_)).trans (by rw [astore_to gH2_M ((astoreC_one (by kernel_rfl) rfl rfl (by rw [ml hR]; omega)).trans (congrArg some (ms_r hR (by omega)))), ← hH3_]; rfl)) ?_
  refine cf_go 9 ?_
  have gH3_M : H3_.get (M) = some ⟨((R.set rd wv).map (Value.int .u64) ++ [Value.slice (some ⟨W, 0, none⟩) n n, .slice (some ⟨C, 0, none⟩) is.length (unk + 5), .int .i64 ((k : Nat) : Int)]), 62, false⟩ := by rw [hH3_]; exact (Heap.get_put _ _ _ _).trans (if_pos rfl)
  obtain ⟨H4_, hH4_⟩ : ∃ x : Heap, x = H3_.put (M) ⟨((R.set rd wv).map (Value.int .u64) ++ [Value.slice (some ⟨W, 0, none⟩) n n, .slice (some ⟨C, 0, none⟩) is.length (unk + 5), .int .i64 ((k + 1 : Nat) : Int)]), 62, false⟩ := ⟨_, rfl⟩
  have nH4_ : H4_.n = H3_.n := by rw [hH4_]; rfl
  refine cf_skip H4_ (by kernel_rfl) ((by kernel_rfl : _ = skp (astore T8 3 (.pointer (some ⟨M, 18, none⟩)) (.int .i64 ((k + 1 : Nat) : Int)) H3_)).trans (by rw [astore_to gH3_M ((astoreC_one (by kernel_rfl) rfl rfl (by rw [ml ((List.length_set ..).trans hR)]; omega)).trans (congrArg some (ms_18 ((List.length_set ..).trans hR)))), ← hH4_]; rfl)) ?_
  refine cf_go 8 ?_
  have gH4_M : H4_.get (M) = some ⟨((R.set rd wv).map (Value.int .u64) ++ [Value.slice (some ⟨W, 0, none⟩) n n, .slice (some ⟨C, 0, none⟩) is.length (unk + 5), .int .i64 ((k + 1 : Nat) : Int)]), 62, false⟩ := by rw [hH4_]; exact (Heap.get_put _ _ _ _).trans (if_pos rfl)
  have gH4_W : H4_.get (W) = some ⟨(Wd.map (Value.int .u32)), 30, false⟩ := by rw [hH4_, Heap.get_put, if_neg (by omega)]; rw [hH3_, Heap.get_put, if_neg (by omega)]; exact gH2_W
  refine cf_end (.int .i64 0) H4_ (by kernel_rfl) (by kernel_rfl) (by kernel_rfl) ?_
  exact ⟨rfl, by omega, gH4_M, gH4_W, fun b hb h1 h2 => by rw [hH4_, Heap.get_put, if_neg (by omega), hH3_, Heap.get_put, if_neg (by omega), hH2_, Heap.get_put, if_neg (by omega), hH1_, Heap.get_push, if_neg (by omega)]⟩
theorem step_stb {H : Heap} {M W n : Nat} {R Wd : List Int} {C k rd ra rb pl : Nat} {is : List Ins5} { im xa xb : Int} (hk : is[k]? = some (15, (rd : Int), (ra : Int), (rb : Int), im)) (hkl : k < is.length) (hk2 : k < 4611686018427387904) (hrd : rd < 16) (hra : ra < 16) (hrb : rb < 16) (hi0 : 0 ≤ im) (hi1 : im < 4294967296) (ea : R[ra]? = some xa) (eb : R[rb]? = some xb) (ha0 : 0 ≤ xa) (ha1 : xa < 18446744073709551616) (hb0 : 0 ≤ xb) (hb1 : xb < 18446744073709551616) (hpl : IntKind.u64.wrap (xa + im) = ((pl : Nat) : Int)) (hpl2 : pl < 18446744073709551616) (hn : n ≤ 65536) (hWl : Wd.length = n) (gC : H.get C = some ⟨insC is, 48, false⟩) (hC : C < H.n) (hMC : M ≠ C) (hWC : W ≠ C) (gM : H.get M = some ⟨macC R W n (.slice (some ⟨C, 0, none⟩) is.length (unk + 5)) (k : Int), 62, false⟩) (gW : H.get W = some ⟨Wd.map (Value.int .u32), 30, false⟩) (hR : R.length = 16) (hMW : M ≠ W) (hM : M < H.n) (hW : W < H.n) (hp : n ≤ pl) : ACall Try.prog T8 21 #[.pointer (some ⟨M, 0, none⟩)] H fun r H' => r = .int .i64 4 ∧ MTo H H' 62 M W n (.slice (some ⟨C, 0, none⟩) is.length (unk + 5)) R Wd ((k : Nat) : Int) := by
  refine acall_cf 144 (initTm 0 #[.pointer (some ⟨M, 0, none⟩)]) rfl f21_fn f21_body rfl rfl ?_
  refine cf_go 11 ?_
  refine cf_val 11 (.int .i64 ((k : Nat) : Int)) H (by kernel_rfl) ((by kernel_rfl : _ = val (aload T8 3 (.pointer (some ⟨M, 18, none⟩)) H) H).trans (val_of ((aload_at gM).trans (aloadC_cellB (n := 1) (by kernel_rfl) (by kernel_rfl) (mc_18 hR))))) ?_
  refine cf_go 1 ?_
  refine cf_see 12 (.bool false) (see_bool (by kernel_rfl) ((decide_eq_false (by omega)) : ((decide (((k : Nat) : Int) < 0))) = false)) ?_
  refine cf_go 4 ?_
  refine cf_val 17 (.int .i64 ((k : Nat) : Int)) H (by kernel_rfl) ((by kernel_rfl : _ = val (aload T8 3 (.pointer (some ⟨M, 18, none⟩)) H) H).trans (val_of ((aload_at gM).trans (aloadC_cellB (n := 1) (by kernel_rfl) (by kernel_rfl) (mc_18 hR))))) ?_
  refine cf_go 3 ?_
  refine cf_val 21 (.slice (some ⟨C, 0, none⟩) is.length (unk + 5)) H (by kernel_rfl) ((by kernel_rfl : _ = val (aload T8 22 (.pointer (some ⟨M, 17, none⟩)) H) H).trans (val_of ((aload_at gM).trans (aloadC_cellB (n := 1) (by kernel_rfl) (by kernel_rfl) (mc_17 hR))))) ?_
  refine cf_go 2 ?_
  refine cf_see 23 (.bool false) (see_bool (by kernel_rfl) ((decide_eq_false (by omega)) : ((decide (((k : Nat) : Int) ≥ ((is.length : Nat) : Int)))) = false)) ?_
  refine cf_go 11 ?_
  refine cf_val 28 (.slice (some ⟨C, 0, none⟩) is.length (unk + 5)) H (by kernel_rfl) ((by kernel_rfl : _ = val (aload T8 22 (.pointer (some ⟨M, 17, none⟩)) H) H).trans (val_of ((aload_at gM).trans (aloadC_cellB (n := 1) (by kernel_rfl) (by kernel_rfl) (mc_17 hR))))) ?_
  refine cf_go 3 ?_
  refine cf_val 32 (.int .i64 ((k : Nat) : Int)) H (by kernel_rfl) ((by kernel_rfl : _ = val (aload T8 3 (.pointer (some ⟨M, 18, none⟩)) H) H).trans (val_of ((aload_at gM).trans (aloadC_cellB (n := 1) (by kernel_rfl) (by kernel_rfl) (mc_18 hR))))) ?_
  refine cf_val 33 (.pointer (some ⟨C, 0 + k * 5, none⟩)) H (by kernel_rfl) ((by kernel_rfl : _ = val (bif (k : Nat).blt is.length then some (.pointer (some ⟨C, 0 + k * 5, none⟩)) else none) H).trans (by rw [show (k : Nat).blt is.length = true from (by rw [blt_dec]; simp only [decide_eq_true_eq]; omega)]; rfl)) ?_
  refine cf_val 34 (.agg #[.int .i64 15, .int .i64 ((rd : Nat) : Int), .int .i64 ((ra : Nat) : Int), .int .i64 ((rb : Nat) : Int), .int .u32 im]) H (by kernel_rfl) ((by kernel_rfl : _ = val (aload T8 48 (.pointer (some ⟨C, 0 + k * 5, none⟩)) H) H).trans (val_of ((aload_at gC).trans (aloadC_rowB (n := 5) (l := [Value.int .i64 15, .int .i64 ((rd : Nat) : Int), .int .i64 ((ra : Nat) : Int), .int .i64 ((rb : Nat) : Int), .int .u32 im]) (by kernel_rfl) (by kernel_rfl) rfl (insC_at is k _ hk))))) ?_
  obtain ⟨H1_, hH1_⟩ : ∃ x : Heap, x = H.push ⟨[Value.int .i64 0, .int .i64 0, .int .i64 0, .int .i64 0, .int .u32 0], 48, false⟩ := ⟨_, rfl⟩
  have nH1_ : H1_.n = H.n + 1 := by rw [hH1_]; rfl
  refine cf_val 3 (.pointer (some ⟨H.n, 0, none⟩)) H1_ (by kernel_rfl) ((by kernel_rfl : _ = some (Res.val (.pointer (some ⟨H.n, 0, none⟩)), H.push ⟨[Value.int .i64 0, .int .i64 0, .int .i64 0, .int .i64 0, .int .u32 0], 48, false⟩)).trans (by rw [← hH1_])) ?_
  have gH1_H_n : H1_.get (H.n) = some ⟨[Value.int .i64 0, .int .i64 0, .int .i64 0, .int .i64 0, .int .u32 0], 48, false⟩ := by rw [hH1_]; exact (Heap.get_push _ _ _).trans (if_pos rfl)
  obtain ⟨H2_, hH2_⟩ : ∃ x : Heap, x = H1_.put (H.n) ⟨[Value.int .i64 15, .int .i64 ((rd : Nat) : Int), .int .i64 ((ra : Nat) : Int), .int .i64 ((rb : Nat) : Int), .int .u32 im], 48, false⟩ := ⟨_, rfl⟩
  have nH2_ : H2_.n = H1_.n := by rw [hH2_]; rfl
  refine cf_skip H2_ (by kernel_rfl) ((by kernel_rfl : _ = skp (astore T8 48 (.pointer (some ⟨H.n, 0, none⟩)) (.agg #[.int .i64 15, .int .i64 ((rd : Nat) : Int), .int .i64 ((ra : Nat) : Int), .int .i64 ((rb : Nat) : Int), .int .u32 im]) H1_)).trans (by rw [astore_to gH1_H_n (by kernel_rfl), ← hH2_]; rfl)) ?_
  refine cf_go 6 ?_
  have gH2_H_n : H2_.get (H.n) = some ⟨[Value.int .i64 15, .int .i64 ((rd : Nat) : Int), .int .i64 ((ra : Nat) : Int), .int .i64 ((rb : Nat) : Int), .int .u32 im], 48, false⟩ := by rw [hH2_]; exact (Heap.get_put _ _ _ _).trans (if_pos rfl)
  refine cf_val 37 (.int .i64 ((ra : Nat) : Int)) H2_ (by kernel_rfl) ((by kernel_rfl : _ = val (aload T8 3 (.pointer (some ⟨H.n, 2, none⟩)) H2_) H2_).trans (val_of ((aload_at gH2_H_n).trans (by kernel_rfl)))) ?_
  refine cf_go 2 ?_
  refine cf_val 40 (.pointer (some ⟨M, 0 + ra * 1, none⟩)) H2_ (by kernel_rfl) ((by kernel_rfl : _ = val (bif (ra : Nat).blt 16 then some (.pointer (some ⟨M, 0 + ra * 1, none⟩)) else none) H2_).trans (by rw [show (ra : Nat).blt 16 = true from (by rw [blt_dec]; simp only [decide_eq_true_eq]; omega)]; rfl)) ?_
  have gH2_M : H2_.get (M) = some ⟨(R.map (Value.int .u64) ++ [Value.slice (some ⟨W, 0, none⟩) n n, .slice (some ⟨C, 0, none⟩) is.length (unk + 5), .int .i64 ((k : Nat) : Int)]), 62, false⟩ := by rw [hH2_, Heap.get_put, if_neg (by omega)]; rw [hH1_, Heap.get_push, if_neg (by omega)]; exact gM
  refine cf_val 41 (.int .u64 xa) H2_ (by kernel_rfl) ((by kernel_rfl : _ = val (aload T8 42 (.pointer (some ⟨M, 0 + ra * 1, none⟩)) H2_) H2_).trans (val_of ((aload_at gH2_M).trans (aloadC_cellB (n := 1) (by kernel_rfl) (by kernel_rfl) (mc_r ea))))) ?_
  refine cf_go 2 ?_
  refine cf_val 44 (.int .i64 ((rb : Nat) : Int)) H2_ (by kernel_rfl) ((by kernel_rfl : _ = val (aload T8 3 (.pointer (some ⟨H.n, 3, none⟩)) H2_) H2_).trans (val_of ((aload_at gH2_H_n).trans (by kernel_rfl)))) ?_
  refine cf_go 2 ?_
  refine cf_val 47 (.pointer (some ⟨M, 0 + rb * 1, none⟩)) H2_ (by kernel_rfl) ((by kernel_rfl : _ = val (bif (rb : Nat).blt 16 then some (.pointer (some ⟨M, 0 + rb * 1, none⟩)) else none) H2_).trans (by rw [show (rb : Nat).blt 16 = true from (by rw [blt_dec]; simp only [decide_eq_true_eq]; omega)]; rfl)) ?_
  refine cf_val 48 (.int .u64 xb) H2_ (by kernel_rfl) ((by kernel_rfl : _ = val (aload T8 42 (.pointer (some ⟨M, 0 + rb * 1, none⟩)) H2_) H2_).trans (val_of ((aload_at gH2_M).trans (aloadC_cellB (n := 1) (by kernel_rfl) (by kernel_rfl) (mc_r eb))))) ?_
  refine cf_go 8 ?_
  refine cf_val 51 (.int .u32 im) H2_ (by kernel_rfl) ((by kernel_rfl : _ = val (aload T8 30 (.pointer (some ⟨H.n, 4, none⟩)) H2_) H2_).trans (val_of ((aload_at gH2_H_n).trans (by kernel_rfl)))) ?_
  refine cf_go 1 ?_
  refine cf_see 52 (.int .u64 im) (see_int (x := IntKind.u64.wrap im) (by kernel_rfl) (wu64 rfl (by omega) (by omega))) ?_
  refine cf_go 1 ?_
  refine cf_see 53 (.int .u64 ((pl : Nat) : Int)) (see_int (x := (IntKind.u64.wrap (xa + im))) (by kernel_rfl) hpl) ?_
  refine cf_go 8 ?_
  refine cf_val 57 (.int .i64 ((k : Nat) : Int)) H2_ (by kernel_rfl) ((by kernel_rfl : _ = val (aload T8 3 (.pointer (some ⟨M, 18, none⟩)) H2_) H2_).trans (val_of ((aload_at gH2_M).trans (aloadC_cellB (n := 1) (by kernel_rfl) (by kernel_rfl) (mc_18 hR))))) ?_
  refine cf_go 1 ?_
  refine cf_see 58 (.int .i64 ((k + 1 : Nat) : Int)) (see_int (x := (IntKind.i64.wrap (((k : Nat) : Int) + 1))) (by kernel_rfl) (w64 (by omega) (by omega) (by omega))) ?_
  refine cf_go 7 ?_
  refine cf_val 60 (.int .i64 15) H2_ (by kernel_rfl) ((by kernel_rfl : _ = val (aload T8 3 (.pointer (some ⟨H.n, 0, none⟩)) H2_) H2_).trans (val_of ((aload_at gH2_H_n).trans (by kernel_rfl)))) ?_
  refine cf_go 38 ?_
  refine cf_val 92 (.slice (some ⟨W, 0, none⟩) n n) H2_ (by kernel_rfl) ((by kernel_rfl : _ = val (aload T8 56 (.pointer (some ⟨M, 16, none⟩)) H2_) H2_).trans (val_of ((aload_at gH2_M).trans (aloadC_cellB (n := 1) (by kernel_rfl) (by kernel_rfl) (mc_16 hR))))) ?_
  refine cf_go 2 ?_
  refine cf_see 94 (.int .u64 ((n : Nat) : Int)) (see_int (x := IntKind.u64.wrap ((n : Nat) : Int)) (by kernel_rfl) (wu64 rfl (by omega) (by omega))) ?_
  refine cf_go 1 ?_
  refine cf_see 95 (.bool true) (see_bool (by kernel_rfl) ((decide_eq_true (by omega)) : ((decide (((pl : Nat) : Int) ≥ ((n : Nat) : Int)))) = true)) ?_
  refine cf_go 12 ?_
  have gH2_W : H2_.get (W) = some ⟨(Wd.map (Value.int .u32)), 30, false⟩ := by rw [hH2_, Heap.get_put, if_neg (by omega)]; rw [hH1_, Heap.get_push, if_neg (by omega)]; exact gW
  refine cf_end (.int .i64 4) H2_ (by kernel_rfl) (by kernel_rfl) (by kernel_rfl) ?_
  exact ⟨rfl, by omega, gH2_M, gH2_W, fun b hb h1 h2 => by rw [hH2_, Heap.get_put, if_neg (by omega), hH1_, Heap.get_push, if_neg (by omega)]⟩
theorem step_st {H : Heap} {M W n : Nat} {R Wd : List Int} {C k rd ra rb pl : Nat} {is : List Ins5} { im xa xb : Int} (hk : is[k]? = some (15, (rd : Int), (ra : Int), (rb : Int), im)) (hkl : k < is.length) (hk2 : k < 4611686018427387904) (hrd : rd < 16) (hra : ra < 16) (hrb : rb < 16) (hi0 : 0 ≤ im) (hi1 : im < 4294967296) (ea : R[ra]? = some xa) (eb : R[rb]? = some xb) (ha0 : 0 ≤ xa) (ha1 : xa < 18446744073709551616) (hb0 : 0 ≤ xb) (hb1 : xb < 18446744073709551616) (hpl : IntKind.u64.wrap (xa + im) = ((pl : Nat) : Int)) (hpl2 : pl < 18446744073709551616) (hn : n ≤ 65536) (hWl : Wd.length = n) (gC : H.get C = some ⟨insC is, 48, false⟩) (hC : C < H.n) (hMC : M ≠ C) (hWC : W ≠ C) (gM : H.get M = some ⟨macC R W n (.slice (some ⟨C, 0, none⟩) is.length (unk + 5)) (k : Int), 62, false⟩) (gW : H.get W = some ⟨Wd.map (Value.int .u32), 30, false⟩) (hR : R.length = 16) (hMW : M ≠ W) (hM : M < H.n) (hW : W < H.n) (hp : pl < n) : ACall Try.prog T8 21 #[.pointer (some ⟨M, 0, none⟩)] H fun r H' => r = .int .i64 0 ∧ MTo H H' 62 M W n (.slice (some ⟨C, 0, none⟩) is.length (unk + 5)) R (Wd.set pl (IntKind.u32.wrap xb)) ((k + 1 : Nat) : Int) := by
  refine acall_cf 144 (initTm 0 #[.pointer (some ⟨M, 0, none⟩)]) rfl f21_fn f21_body rfl rfl ?_
  refine cf_go 11 ?_
  refine cf_val 11 (.int .i64 ((k : Nat) : Int)) H (by kernel_rfl) ((by kernel_rfl : _ = val (aload T8 3 (.pointer (some ⟨M, 18, none⟩)) H) H).trans (val_of ((aload_at gM).trans (aloadC_cellB (n := 1) (by kernel_rfl) (by kernel_rfl) (mc_18 hR))))) ?_
  refine cf_go 1 ?_
  refine cf_see 12 (.bool false) (see_bool (by kernel_rfl) ((decide_eq_false (by omega)) : ((decide (((k : Nat) : Int) < 0))) = false)) ?_
  refine cf_go 4 ?_
  refine cf_val 17 (.int .i64 ((k : Nat) : Int)) H (by kernel_rfl) ((by kernel_rfl : _ = val (aload T8 3 (.pointer (some ⟨M, 18, none⟩)) H) H).trans (val_of ((aload_at gM).trans (aloadC_cellB (n := 1) (by kernel_rfl) (by kernel_rfl) (mc_18 hR))))) ?_
  refine cf_go 3 ?_
  refine cf_val 21 (.slice (some ⟨C, 0, none⟩) is.length (unk + 5)) H (by kernel_rfl) ((by kernel_rfl : _ = val (aload T8 22 (.pointer (some ⟨M, 17, none⟩)) H) H).trans (val_of ((aload_at gM).trans (aloadC_cellB (n := 1) (by kernel_rfl) (by kernel_rfl) (mc_17 hR))))) ?_
  refine cf_go 2 ?_
  refine cf_see 23 (.bool false) (see_bool (by kernel_rfl) ((decide_eq_false (by omega)) : ((decide (((k : Nat) : Int) ≥ ((is.length : Nat) : Int)))) = false)) ?_
  refine cf_go 11 ?_
  refine cf_val 28 (.slice (some ⟨C, 0, none⟩) is.length (unk + 5)) H (by kernel_rfl) ((by kernel_rfl : _ = val (aload T8 22 (.pointer (some ⟨M, 17, none⟩)) H) H).trans (val_of ((aload_at gM).trans (aloadC_cellB (n := 1) (by kernel_rfl) (by kernel_rfl) (mc_17 hR))))) ?_
  refine cf_go 3 ?_
  refine cf_val 32 (.int .i64 ((k : Nat) : Int)) H (by kernel_rfl) ((by kernel_rfl : _ = val (aload T8 3 (.pointer (some ⟨M, 18, none⟩)) H) H).trans (val_of ((aload_at gM).trans (aloadC_cellB (n := 1) (by kernel_rfl) (by kernel_rfl) (mc_18 hR))))) ?_
  refine cf_val 33 (.pointer (some ⟨C, 0 + k * 5, none⟩)) H (by kernel_rfl) ((by kernel_rfl : _ = val (bif (k : Nat).blt is.length then some (.pointer (some ⟨C, 0 + k * 5, none⟩)) else none) H).trans (by rw [show (k : Nat).blt is.length = true from (by rw [blt_dec]; simp only [decide_eq_true_eq]; omega)]; rfl)) ?_
  refine cf_val 34 (.agg #[.int .i64 15, .int .i64 ((rd : Nat) : Int), .int .i64 ((ra : Nat) : Int), .int .i64 ((rb : Nat) : Int), .int .u32 im]) H (by kernel_rfl) ((by kernel_rfl : _ = val (aload T8 48 (.pointer (some ⟨C, 0 + k * 5, none⟩)) H) H).trans (val_of ((aload_at gC).trans (aloadC_rowB (n := 5) (l := [Value.int .i64 15, .int .i64 ((rd : Nat) : Int), .int .i64 ((ra : Nat) : Int), .int .i64 ((rb : Nat) : Int), .int .u32 im]) (by kernel_rfl) (by kernel_rfl) rfl (insC_at is k _ hk))))) ?_
  obtain ⟨H1_, hH1_⟩ : ∃ x : Heap, x = H.push ⟨[Value.int .i64 0, .int .i64 0, .int .i64 0, .int .i64 0, .int .u32 0], 48, false⟩ := ⟨_, rfl⟩
  have nH1_ : H1_.n = H.n + 1 := by rw [hH1_]; rfl
  refine cf_val 3 (.pointer (some ⟨H.n, 0, none⟩)) H1_ (by kernel_rfl) ((by kernel_rfl : _ = some (Res.val (.pointer (some ⟨H.n, 0, none⟩)), H.push ⟨[Value.int .i64 0, .int .i64 0, .int .i64 0, .int .i64 0, .int .u32 0], 48, false⟩)).trans (by rw [← hH1_])) ?_
  have gH1_H_n : H1_.get (H.n) = some ⟨[Value.int .i64 0, .int .i64 0, .int .i64 0, .int .i64 0, .int .u32 0], 48, false⟩ := by rw [hH1_]; exact (Heap.get_push _ _ _).trans (if_pos rfl)
  obtain ⟨H2_, hH2_⟩ : ∃ x : Heap, x = H1_.put (H.n) ⟨[Value.int .i64 15, .int .i64 ((rd : Nat) : Int), .int .i64 ((ra : Nat) : Int), .int .i64 ((rb : Nat) : Int), .int .u32 im], 48, false⟩ := ⟨_, rfl⟩
  have nH2_ : H2_.n = H1_.n := by rw [hH2_]; rfl
  refine cf_skip H2_ (by kernel_rfl) ((by kernel_rfl : _ = skp (astore T8 48 (.pointer (some ⟨H.n, 0, none⟩)) (.agg #[.int .i64 15, .int .i64 ((rd : Nat) : Int), .int .i64 ((ra : Nat) : Int), .int .i64 ((rb : Nat) : Int), .int .u32 im]) H1_)).trans (by rw [astore_to gH1_H_n (by kernel_rfl), ← hH2_]; rfl)) ?_
  refine cf_go 6 ?_
  have gH2_H_n : H2_.get (H.n) = some ⟨[Value.int .i64 15, .int .i64 ((rd : Nat) : Int), .int .i64 ((ra : Nat) : Int), .int .i64 ((rb : Nat) : Int), .int .u32 im], 48, false⟩ := by rw [hH2_]; exact (Heap.get_put _ _ _ _).trans (if_pos rfl)
  refine cf_val 37 (.int .i64 ((ra : Nat) : Int)) H2_ (by kernel_rfl) ((by kernel_rfl : _ = val (aload T8 3 (.pointer (some ⟨H.n, 2, none⟩)) H2_) H2_).trans (val_of ((aload_at gH2_H_n).trans (by kernel_rfl)))) ?_
  refine cf_go 2 ?_
  refine cf_val 40 (.pointer (some ⟨M, 0 + ra * 1, none⟩)) H2_ (by kernel_rfl) ((by kernel_rfl : _ = val (bif (ra : Nat).blt 16 then some (.pointer (some ⟨M, 0 + ra * 1, none⟩)) else none) H2_).trans (by rw [show (ra : Nat).blt 16 = true from (by rw [blt_dec]; simp only [decide_eq_true_eq]; omega)]; rfl)) ?_
  have gH2_M : H2_.get (M) = some ⟨(R.map (Value.int .u64) ++ [Value.slice (some ⟨W, 0, none⟩) n n, .slice (some ⟨C, 0, none⟩) is.length (unk + 5), .int .i64 ((k : Nat) : Int)]), 62, false⟩ := by rw [hH2_, Heap.get_put, if_neg (by omega)]; rw [hH1_, Heap.get_push, if_neg (by omega)]; exact gM
  refine cf_val 41 (.int .u64 xa) H2_ (by kernel_rfl) ((by kernel_rfl : _ = val (aload T8 42 (.pointer (some ⟨M, 0 + ra * 1, none⟩)) H2_) H2_).trans (val_of ((aload_at gH2_M).trans (aloadC_cellB (n := 1) (by kernel_rfl) (by kernel_rfl) (mc_r ea))))) ?_
  refine cf_go 2 ?_
  refine cf_val 44 (.int .i64 ((rb : Nat) : Int)) H2_ (by kernel_rfl) ((by kernel_rfl : _ = val (aload T8 3 (.pointer (some ⟨H.n, 3, none⟩)) H2_) H2_).trans (val_of ((aload_at gH2_H_n).trans (by kernel_rfl)))) ?_
  refine cf_go 2 ?_
  refine cf_val 47 (.pointer (some ⟨M, 0 + rb * 1, none⟩)) H2_ (by kernel_rfl) ((by kernel_rfl : _ = val (bif (rb : Nat).blt 16 then some (.pointer (some ⟨M, 0 + rb * 1, none⟩)) else none) H2_).trans (by rw [show (rb : Nat).blt 16 = true from (by rw [blt_dec]; simp only [decide_eq_true_eq]; omega)]; rfl)) ?_
  refine cf_val 48 (.int .u64 xb) H2_ (by kernel_rfl) ((by kernel_rfl : _ = val (aload T8 42 (.pointer (some ⟨M, 0 + rb * 1, none⟩)) H2_) H2_).trans (val_of ((aload_at gH2_M).trans (aloadC_cellB (n := 1) (by kernel_rfl) (by kernel_rfl) (mc_r eb))))) ?_
  refine cf_go 8 ?_
  refine cf_val 51 (.int .u32 im) H2_ (by kernel_rfl) ((by kernel_rfl : _ = val (aload T8 30 (.pointer (some ⟨H.n, 4, none⟩)) H2_) H2_).trans (val_of ((aload_at gH2_H_n).trans (by kernel_rfl)))) ?_
  refine cf_go 1 ?_
  refine cf_see 52 (.int .u64 im) (see_int (x := IntKind.u64.wrap im) (by kernel_rfl) (wu64 rfl (by omega) (by omega))) ?_
  refine cf_go 1 ?_
  refine cf_see 53 (.int .u64 ((pl : Nat) : Int)) (see_int (x := (IntKind.u64.wrap (xa + im))) (by kernel_rfl) hpl) ?_
  refine cf_go 8 ?_
  refine cf_val 57 (.int .i64 ((k : Nat) : Int)) H2_ (by kernel_rfl) ((by kernel_rfl : _ = val (aload T8 3 (.pointer (some ⟨M, 18, none⟩)) H2_) H2_).trans (val_of ((aload_at gH2_M).trans (aloadC_cellB (n := 1) (by kernel_rfl) (by kernel_rfl) (mc_18 hR))))) ?_
  refine cf_go 1 ?_
  refine cf_see 58 (.int .i64 ((k + 1 : Nat) : Int)) (see_int (x := (IntKind.i64.wrap (((k : Nat) : Int) + 1))) (by kernel_rfl) (w64 (by omega) (by omega) (by omega))) ?_
  refine cf_go 7 ?_
  refine cf_val 60 (.int .i64 15) H2_ (by kernel_rfl) ((by kernel_rfl : _ = val (aload T8 3 (.pointer (some ⟨H.n, 0, none⟩)) H2_) H2_).trans (val_of ((aload_at gH2_H_n).trans (by kernel_rfl)))) ?_
  refine cf_go 38 ?_
  refine cf_val 92 (.slice (some ⟨W, 0, none⟩) n n) H2_ (by kernel_rfl) ((by kernel_rfl : _ = val (aload T8 56 (.pointer (some ⟨M, 16, none⟩)) H2_) H2_).trans (val_of ((aload_at gH2_M).trans (aloadC_cellB (n := 1) (by kernel_rfl) (by kernel_rfl) (mc_16 hR))))) ?_
  refine cf_go 2 ?_
  refine cf_see 94 (.int .u64 ((n : Nat) : Int)) (see_int (x := IntKind.u64.wrap ((n : Nat) : Int)) (by kernel_rfl) (wu64 rfl (by omega) (by omega))) ?_
  refine cf_go 1 ?_
  refine cf_see 95 (.bool false) (see_bool (by kernel_rfl) ((decide_eq_false (by omega)) : ((decide (((pl : Nat) : Int) ≥ ((n : Nat) : Int)))) = false)) ?_
  refine cf_go 8 ?_
  refine cf_val 97 (.int .i64 15) H2_ (by kernel_rfl) ((by kernel_rfl : _ = val (aload T8 3 (.pointer (some ⟨H.n, 0, none⟩)) H2_) H2_).trans (val_of ((aload_at gH2_H_n).trans (by kernel_rfl)))) ?_
  refine cf_go 8 ?_
  refine cf_val 116 (.slice (some ⟨W, 0, none⟩) n n) H2_ (by kernel_rfl) ((by kernel_rfl : _ = val (aload T8 56 (.pointer (some ⟨M, 16, none⟩)) H2_) H2_).trans (val_of ((aload_at gH2_M).trans (aloadC_cellB (n := 1) (by kernel_rfl) (by kernel_rfl) (mc_16 hR))))) ?_
  refine cf_go 3 ?_
  refine cf_val 120 (.pointer (some ⟨W, 0 + pl * 1, none⟩)) H2_ (by kernel_rfl) ((by kernel_rfl : _ = val (bif (pl : Nat).blt n then some (.pointer (some ⟨W, 0 + pl * 1, none⟩)) else none) H2_).trans (by rw [show (pl : Nat).blt n = true from (by rw [blt_dec]; simp only [decide_eq_true_eq]; omega)]; rfl)) ?_
  have gH2_W : H2_.get (W) = some ⟨(Wd.map (Value.int .u32)), 30, false⟩ := by rw [hH2_, Heap.get_put, if_neg (by omega)]; rw [hH1_, Heap.get_push, if_neg (by omega)]; exact gW
  obtain ⟨H3_, hH3_⟩ : ∃ x : Heap, x = H2_.put (W) ⟨((Wd.set pl (IntKind.u32.wrap xb)).map (Value.int .u32)), 30, false⟩ := ⟨_, rfl⟩
  have nH3_ : H3_.n = H2_.n := by rw [hH3_]; rfl
  refine cf_skip H3_ (by kernel_rfl) ((by kernel_rfl : _ = skp (astore T8 30 (.pointer (some ⟨W, 0 + pl * 1, none⟩)) (.int .u32 (IntKind.u32.wrap xb)) H2_)).trans (by rw [astore_to gH2_W ((astoreC_one (by kernel_rfl) rfl rfl (by rw [List.length_map]; omega)).trans (congrArg some (mw_s _ _))), ← hH3_]; rfl)) ?_
  refine cf_go 9 ?_
  have gH3_M : H3_.get (M) = some ⟨(R.map (Value.int .u64) ++ [Value.slice (some ⟨W, 0, none⟩) n n, .slice (some ⟨C, 0, none⟩) is.length (unk + 5), .int .i64 ((k : Nat) : Int)]), 62, false⟩ := by rw [hH3_, Heap.get_put, if_neg (by omega)]; exact gH2_M
  obtain ⟨H4_, hH4_⟩ : ∃ x : Heap, x = H3_.put (M) ⟨(R.map (Value.int .u64) ++ [Value.slice (some ⟨W, 0, none⟩) n n, .slice (some ⟨C, 0, none⟩) is.length (unk + 5), .int .i64 ((k + 1 : Nat) : Int)]), 62, false⟩ := ⟨_, rfl⟩
  have nH4_ : H4_.n = H3_.n := by rw [hH4_]; rfl
  refine cf_skip H4_ (by kernel_rfl) ((by kernel_rfl : _ = skp (astore T8 3 (.pointer (some ⟨M, 18, none⟩)) (.int .i64 ((k + 1 : Nat) : Int)) H3_)).trans (by rw [astore_to gH3_M ((astoreC_one (by kernel_rfl) rfl rfl (by rw [ml hR]; omega)).trans (congrArg some (ms_18 hR))), ← hH4_]; rfl)) ?_
  refine cf_go 8 ?_
  have gH4_M : H4_.get (M) = some ⟨(R.map (Value.int .u64) ++ [Value.slice (some ⟨W, 0, none⟩) n n, .slice (some ⟨C, 0, none⟩) is.length (unk + 5), .int .i64 ((k + 1 : Nat) : Int)]), 62, false⟩ := by rw [hH4_]; exact (Heap.get_put _ _ _ _).trans (if_pos rfl)
  have gH4_W : H4_.get (W) = some ⟨((Wd.set pl (IntKind.u32.wrap xb)).map (Value.int .u32)), 30, false⟩ := by rw [hH4_, Heap.get_put, if_neg (by omega)]; rw [hH3_]; exact (Heap.get_put _ _ _ _).trans (if_pos rfl)
  refine cf_end (.int .i64 0) H4_ (by kernel_rfl) (by kernel_rfl) (by kernel_rfl) ?_
  exact ⟨rfl, by omega, gH4_M, gH4_W, fun b hb h1 h2 => by rw [hH4_, Heap.get_put, if_neg (by omega), hH3_, Heap.get_put, if_neg (by omega), hH2_, Heap.get_put, if_neg (by omega), hH1_, Heap.get_push, if_neg (by omega)]⟩
theorem step_bzt {H : Heap} {M W n : Nat} {R Wd : List Int} {C k rd ra rb pl : Nat} {is : List Ins5} { im xa xb : Int} (hk : is[k]? = some (16, (rd : Int), (ra : Int), (rb : Int), im)) (hkl : k < is.length) (hk2 : k < 4611686018427387904) (hrd : rd < 16) (hra : ra < 16) (hrb : rb < 16) (hi0 : 0 ≤ im) (hi1 : im < 4294967296) (ea : R[ra]? = some xa) (eb : R[rb]? = some xb) (ha0 : 0 ≤ xa) (ha1 : xa < 18446744073709551616) (hb0 : 0 ≤ xb) (hb1 : xb < 18446744073709551616) (hpl : IntKind.u64.wrap (xa + im) = ((pl : Nat) : Int)) (hpl2 : pl < 18446744073709551616) (hn : n ≤ 65536) (hWl : Wd.length = n) (gC : H.get C = some ⟨insC is, 48, false⟩) (hC : C < H.n) (hMC : M ≠ C) (hWC : W ≠ C) (gM : H.get M = some ⟨macC R W n (.slice (some ⟨C, 0, none⟩) is.length (unk + 5)) (k : Int), 62, false⟩) (gW : H.get W = some ⟨Wd.map (Value.int .u32), 30, false⟩) (hR : R.length = 16) (hMW : M ≠ W) (hM : M < H.n) (hW : W < H.n) (hx : xa = 0) : ACall Try.prog T8 21 #[.pointer (some ⟨M, 0, none⟩)] H fun r H' => r = .int .i64 0 ∧ MTo H H' 62 M W n (.slice (some ⟨C, 0, none⟩) is.length (unk + 5)) R Wd im := by
  refine acall_cf 144 (initTm 0 #[.pointer (some ⟨M, 0, none⟩)]) rfl f21_fn f21_body rfl rfl ?_
  refine cf_go 11 ?_
  refine cf_val 11 (.int .i64 ((k : Nat) : Int)) H (by kernel_rfl) ((by kernel_rfl : _ = val (aload T8 3 (.pointer (some ⟨M, 18, none⟩)) H) H).trans (val_of ((aload_at gM).trans (aloadC_cellB (n := 1) (by kernel_rfl) (by kernel_rfl) (mc_18 hR))))) ?_
  refine cf_go 1 ?_
  refine cf_see 12 (.bool false) (see_bool (by kernel_rfl) ((decide_eq_false (by omega)) : ((decide (((k : Nat) : Int) < 0))) = false)) ?_
  refine cf_go 4 ?_
  refine cf_val 17 (.int .i64 ((k : Nat) : Int)) H (by kernel_rfl) ((by kernel_rfl : _ = val (aload T8 3 (.pointer (some ⟨M, 18, none⟩)) H) H).trans (val_of ((aload_at gM).trans (aloadC_cellB (n := 1) (by kernel_rfl) (by kernel_rfl) (mc_18 hR))))) ?_
  refine cf_go 3 ?_
  refine cf_val 21 (.slice (some ⟨C, 0, none⟩) is.length (unk + 5)) H (by kernel_rfl) ((by kernel_rfl : _ = val (aload T8 22 (.pointer (some ⟨M, 17, none⟩)) H) H).trans (val_of ((aload_at gM).trans (aloadC_cellB (n := 1) (by kernel_rfl) (by kernel_rfl) (mc_17 hR))))) ?_
  refine cf_go 2 ?_
  refine cf_see 23 (.bool false) (see_bool (by kernel_rfl) ((decide_eq_false (by omega)) : ((decide (((k : Nat) : Int) ≥ ((is.length : Nat) : Int)))) = false)) ?_
  refine cf_go 11 ?_
  refine cf_val 28 (.slice (some ⟨C, 0, none⟩) is.length (unk + 5)) H (by kernel_rfl) ((by kernel_rfl : _ = val (aload T8 22 (.pointer (some ⟨M, 17, none⟩)) H) H).trans (val_of ((aload_at gM).trans (aloadC_cellB (n := 1) (by kernel_rfl) (by kernel_rfl) (mc_17 hR))))) ?_
  refine cf_go 3 ?_
  refine cf_val 32 (.int .i64 ((k : Nat) : Int)) H (by kernel_rfl) ((by kernel_rfl : _ = val (aload T8 3 (.pointer (some ⟨M, 18, none⟩)) H) H).trans (val_of ((aload_at gM).trans (aloadC_cellB (n := 1) (by kernel_rfl) (by kernel_rfl) (mc_18 hR))))) ?_
  refine cf_val 33 (.pointer (some ⟨C, 0 + k * 5, none⟩)) H (by kernel_rfl) ((by kernel_rfl : _ = val (bif (k : Nat).blt is.length then some (.pointer (some ⟨C, 0 + k * 5, none⟩)) else none) H).trans (by rw [show (k : Nat).blt is.length = true from (by rw [blt_dec]; simp only [decide_eq_true_eq]; omega)]; rfl)) ?_
  refine cf_val 34 (.agg #[.int .i64 16, .int .i64 ((rd : Nat) : Int), .int .i64 ((ra : Nat) : Int), .int .i64 ((rb : Nat) : Int), .int .u32 im]) H (by kernel_rfl) ((by kernel_rfl : _ = val (aload T8 48 (.pointer (some ⟨C, 0 + k * 5, none⟩)) H) H).trans (val_of ((aload_at gC).trans (aloadC_rowB (n := 5) (l := [Value.int .i64 16, .int .i64 ((rd : Nat) : Int), .int .i64 ((ra : Nat) : Int), .int .i64 ((rb : Nat) : Int), .int .u32 im]) (by kernel_rfl) (by kernel_rfl) rfl (insC_at is k _ hk))))) ?_
  obtain ⟨H1_, hH1_⟩ : ∃ x : Heap, x = H.push ⟨[Value.int .i64 0, .int .i64 0, .int .i64 0, .int .i64 0, .int .u32 0], 48, false⟩ := ⟨_, rfl⟩
  have nH1_ : H1_.n = H.n + 1 := by rw [hH1_]; rfl
  refine cf_val 3 (.pointer (some ⟨H.n, 0, none⟩)) H1_ (by kernel_rfl) ((by kernel_rfl : _ = some (Res.val (.pointer (some ⟨H.n, 0, none⟩)), H.push ⟨[Value.int .i64 0, .int .i64 0, .int .i64 0, .int .i64 0, .int .u32 0], 48, false⟩)).trans (by rw [← hH1_])) ?_
  have gH1_H_n : H1_.get (H.n) = some ⟨[Value.int .i64 0, .int .i64 0, .int .i64 0, .int .i64 0, .int .u32 0], 48, false⟩ := by rw [hH1_]; exact (Heap.get_push _ _ _).trans (if_pos rfl)
  obtain ⟨H2_, hH2_⟩ : ∃ x : Heap, x = H1_.put (H.n) ⟨[Value.int .i64 16, .int .i64 ((rd : Nat) : Int), .int .i64 ((ra : Nat) : Int), .int .i64 ((rb : Nat) : Int), .int .u32 im], 48, false⟩ := ⟨_, rfl⟩
  have nH2_ : H2_.n = H1_.n := by rw [hH2_]; rfl
  refine cf_skip H2_ (by kernel_rfl) ((by kernel_rfl : _ = skp (astore T8 48 (.pointer (some ⟨H.n, 0, none⟩)) (.agg #[.int .i64 16, .int .i64 ((rd : Nat) : Int), .int .i64 ((ra : Nat) : Int), .int .i64 ((rb : Nat) : Int), .int .u32 im]) H1_)).trans (by rw [astore_to gH1_H_n (by kernel_rfl), ← hH2_]; rfl)) ?_
  refine cf_go 6 ?_
  have gH2_H_n : H2_.get (H.n) = some ⟨[Value.int .i64 16, .int .i64 ((rd : Nat) : Int), .int .i64 ((ra : Nat) : Int), .int .i64 ((rb : Nat) : Int), .int .u32 im], 48, false⟩ := by rw [hH2_]; exact (Heap.get_put _ _ _ _).trans (if_pos rfl)
  refine cf_val 37 (.int .i64 ((ra : Nat) : Int)) H2_ (by kernel_rfl) ((by kernel_rfl : _ = val (aload T8 3 (.pointer (some ⟨H.n, 2, none⟩)) H2_) H2_).trans (val_of ((aload_at gH2_H_n).trans (by kernel_rfl)))) ?_
  refine cf_go 2 ?_
  refine cf_val 40 (.pointer (some ⟨M, 0 + ra * 1, none⟩)) H2_ (by kernel_rfl) ((by kernel_rfl : _ = val (bif (ra : Nat).blt 16 then some (.pointer (some ⟨M, 0 + ra * 1, none⟩)) else none) H2_).trans (by rw [show (ra : Nat).blt 16 = true from (by rw [blt_dec]; simp only [decide_eq_true_eq]; omega)]; rfl)) ?_
  have gH2_M : H2_.get (M) = some ⟨(R.map (Value.int .u64) ++ [Value.slice (some ⟨W, 0, none⟩) n n, .slice (some ⟨C, 0, none⟩) is.length (unk + 5), .int .i64 ((k : Nat) : Int)]), 62, false⟩ := by rw [hH2_, Heap.get_put, if_neg (by omega)]; rw [hH1_, Heap.get_push, if_neg (by omega)]; exact gM
  refine cf_val 41 (.int .u64 xa) H2_ (by kernel_rfl) ((by kernel_rfl : _ = val (aload T8 42 (.pointer (some ⟨M, 0 + ra * 1, none⟩)) H2_) H2_).trans (val_of ((aload_at gH2_M).trans (aloadC_cellB (n := 1) (by kernel_rfl) (by kernel_rfl) (mc_r ea))))) ?_
  refine cf_go 2 ?_
  refine cf_val 44 (.int .i64 ((rb : Nat) : Int)) H2_ (by kernel_rfl) ((by kernel_rfl : _ = val (aload T8 3 (.pointer (some ⟨H.n, 3, none⟩)) H2_) H2_).trans (val_of ((aload_at gH2_H_n).trans (by kernel_rfl)))) ?_
  refine cf_go 2 ?_
  refine cf_val 47 (.pointer (some ⟨M, 0 + rb * 1, none⟩)) H2_ (by kernel_rfl) ((by kernel_rfl : _ = val (bif (rb : Nat).blt 16 then some (.pointer (some ⟨M, 0 + rb * 1, none⟩)) else none) H2_).trans (by rw [show (rb : Nat).blt 16 = true from (by rw [blt_dec]; simp only [decide_eq_true_eq]; omega)]; rfl)) ?_
  refine cf_val 48 (.int .u64 xb) H2_ (by kernel_rfl) ((by kernel_rfl : _ = val (aload T8 42 (.pointer (some ⟨M, 0 + rb * 1, none⟩)) H2_) H2_).trans (val_of ((aload_at gH2_M).trans (aloadC_cellB (n := 1) (by kernel_rfl) (by kernel_rfl) (mc_r eb))))) ?_
  refine cf_go 8 ?_
  refine cf_val 51 (.int .u32 im) H2_ (by kernel_rfl) ((by kernel_rfl : _ = val (aload T8 30 (.pointer (some ⟨H.n, 4, none⟩)) H2_) H2_).trans (val_of ((aload_at gH2_H_n).trans (by kernel_rfl)))) ?_
  refine cf_go 1 ?_
  refine cf_see 52 (.int .u64 im) (see_int (x := IntKind.u64.wrap im) (by kernel_rfl) (wu64 rfl (by omega) (by omega))) ?_
  refine cf_go 1 ?_
  refine cf_see 53 (.int .u64 ((pl : Nat) : Int)) (see_int (x := (IntKind.u64.wrap (xa + im))) (by kernel_rfl) hpl) ?_
  refine cf_go 8 ?_
  refine cf_val 57 (.int .i64 ((k : Nat) : Int)) H2_ (by kernel_rfl) ((by kernel_rfl : _ = val (aload T8 3 (.pointer (some ⟨M, 18, none⟩)) H2_) H2_).trans (val_of ((aload_at gH2_M).trans (aloadC_cellB (n := 1) (by kernel_rfl) (by kernel_rfl) (mc_18 hR))))) ?_
  refine cf_go 1 ?_
  refine cf_see 58 (.int .i64 ((k + 1 : Nat) : Int)) (see_int (x := (IntKind.i64.wrap (((k : Nat) : Int) + 1))) (by kernel_rfl) (w64 (by omega) (by omega) (by omega))) ?_
  refine cf_go 7 ?_
  refine cf_val 60 (.int .i64 16) H2_ (by kernel_rfl) ((by kernel_rfl : _ = val (aload T8 3 (.pointer (some ⟨H.n, 0, none⟩)) H2_) H2_).trans (val_of ((aload_at gH2_H_n).trans (by kernel_rfl)))) ?_
  refine cf_go 46 ?_
  refine cf_see 125 (.bool true) (see_bool (by kernel_rfl) ((beq_iff_eq.2 (by omega)) : (((xa : Int) == 0)) = true)) ?_
  refine cf_go 1 ?_
  refine cf_val 127 (.int .i64 16) H2_ (by kernel_rfl) ((by kernel_rfl : _ = val (aload T8 3 (.pointer (some ⟨H.n, 0, none⟩)) H2_) H2_).trans (val_of ((aload_at gH2_H_n).trans (by kernel_rfl)))) ?_
  refine cf_go 7 ?_
  refine cf_val 131 (.int .u32 im) H2_ (by kernel_rfl) ((by kernel_rfl : _ = val (aload T8 30 (.pointer (some ⟨H.n, 4, none⟩)) H2_) H2_).trans (val_of ((aload_at gH2_H_n).trans (by kernel_rfl)))) ?_
  refine cf_go 1 ?_
  refine cf_see 132 (.int .i64 im) (see_int (x := IntKind.i64.wrap im) (by kernel_rfl) (w64 rfl (by omega) (by omega))) ?_
  refine cf_go 10 ?_
  obtain ⟨H3_, hH3_⟩ : ∃ x : Heap, x = H2_.put (M) ⟨(R.map (Value.int .u64) ++ [Value.slice (some ⟨W, 0, none⟩) n n, .slice (some ⟨C, 0, none⟩) is.length (unk + 5), .int .i64 im]), 62, false⟩ := ⟨_, rfl⟩
  have nH3_ : H3_.n = H2_.n := by rw [hH3_]; rfl
  refine cf_skip H3_ (by kernel_rfl) ((by kernel_rfl : _ = skp (astore T8 3 (.pointer (some ⟨M, 18, none⟩)) (.int .i64 im) H2_)).trans (by rw [astore_to gH2_M ((astoreC_one (by kernel_rfl) rfl rfl (by rw [ml hR]; omega)).trans (congrArg some (ms_18 hR))), ← hH3_]; rfl)) ?_
  refine cf_go 8 ?_
  have gH3_M : H3_.get (M) = some ⟨(R.map (Value.int .u64) ++ [Value.slice (some ⟨W, 0, none⟩) n n, .slice (some ⟨C, 0, none⟩) is.length (unk + 5), .int .i64 im]), 62, false⟩ := by rw [hH3_]; exact (Heap.get_put _ _ _ _).trans (if_pos rfl)
  have gH3_W : H3_.get (W) = some ⟨(Wd.map (Value.int .u32)), 30, false⟩ := by rw [hH3_, Heap.get_put, if_neg (by omega)]; rw [hH2_, Heap.get_put, if_neg (by omega)]; rw [hH1_, Heap.get_push, if_neg (by omega)]; exact gW
  refine cf_end (.int .i64 0) H3_ (by kernel_rfl) (by kernel_rfl) (by kernel_rfl) ?_
  exact ⟨rfl, by omega, gH3_M, gH3_W, fun b hb h1 h2 => by rw [hH3_, Heap.get_put, if_neg (by omega), hH2_, Heap.get_put, if_neg (by omega), hH1_, Heap.get_push, if_neg (by omega)]⟩
theorem step_bzf {H : Heap} {M W n : Nat} {R Wd : List Int} {C k rd ra rb pl : Nat} {is : List Ins5} { im xa xb : Int} (hk : is[k]? = some (16, (rd : Int), (ra : Int), (rb : Int), im)) (hkl : k < is.length) (hk2 : k < 4611686018427387904) (hrd : rd < 16) (hra : ra < 16) (hrb : rb < 16) (hi0 : 0 ≤ im) (hi1 : im < 4294967296) (ea : R[ra]? = some xa) (eb : R[rb]? = some xb) (ha0 : 0 ≤ xa) (ha1 : xa < 18446744073709551616) (hb0 : 0 ≤ xb) (hb1 : xb < 18446744073709551616) (hpl : IntKind.u64.wrap (xa + im) = ((pl : Nat) : Int)) (hpl2 : pl < 18446744073709551616) (hn : n ≤ 65536) (hWl : Wd.length = n) (gC : H.get C = some ⟨insC is, 48, false⟩) (hC : C < H.n) (hMC : M ≠ C) (hWC : W ≠ C) (gM : H.get M = some ⟨macC R W n (.slice (some ⟨C, 0, none⟩) is.length (unk + 5)) (k : Int), 62, false⟩) (gW : H.get W = some ⟨Wd.map (Value.int .u32), 30, false⟩) (hR : R.length = 16) (hMW : M ≠ W) (hM : M < H.n) (hW : W < H.n) (hx : xa ≠ 0) : ACall Try.prog T8 21 #[.pointer (some ⟨M, 0, none⟩)] H fun r H' => r = .int .i64 0 ∧ MTo H H' 62 M W n (.slice (some ⟨C, 0, none⟩) is.length (unk + 5)) R Wd ((k + 1 : Nat) : Int) := by
  refine acall_cf 144 (initTm 0 #[.pointer (some ⟨M, 0, none⟩)]) rfl f21_fn f21_body rfl rfl ?_
  refine cf_go 11 ?_
  refine cf_val 11 (.int .i64 ((k : Nat) : Int)) H (by kernel_rfl) ((by kernel_rfl : _ = val (aload T8 3 (.pointer (some ⟨M, 18, none⟩)) H) H).trans (val_of ((aload_at gM).trans (aloadC_cellB (n := 1) (by kernel_rfl) (by kernel_rfl) (mc_18 hR))))) ?_
  refine cf_go 1 ?_
  refine cf_see 12 (.bool false) (see_bool (by kernel_rfl) ((decide_eq_false (by omega)) : ((decide (((k : Nat) : Int) < 0))) = false)) ?_
  refine cf_go 4 ?_
  refine cf_val 17 (.int .i64 ((k : Nat) : Int)) H (by kernel_rfl) ((by kernel_rfl : _ = val (aload T8 3 (.pointer (some ⟨M, 18, none⟩)) H) H).trans (val_of ((aload_at gM).trans (aloadC_cellB (n := 1) (by kernel_rfl) (by kernel_rfl) (mc_18 hR))))) ?_
  refine cf_go 3 ?_
  refine cf_val 21 (.slice (some ⟨C, 0, none⟩) is.length (unk + 5)) H (by kernel_rfl) ((by kernel_rfl : _ = val (aload T8 22 (.pointer (some ⟨M, 17, none⟩)) H) H).trans (val_of ((aload_at gM).trans (aloadC_cellB (n := 1) (by kernel_rfl) (by kernel_rfl) (mc_17 hR))))) ?_
  refine cf_go 2 ?_
  refine cf_see 23 (.bool false) (see_bool (by kernel_rfl) ((decide_eq_false (by omega)) : ((decide (((k : Nat) : Int) ≥ ((is.length : Nat) : Int)))) = false)) ?_
  refine cf_go 11 ?_
  refine cf_val 28 (.slice (some ⟨C, 0, none⟩) is.length (unk + 5)) H (by kernel_rfl) ((by kernel_rfl : _ = val (aload T8 22 (.pointer (some ⟨M, 17, none⟩)) H) H).trans (val_of ((aload_at gM).trans (aloadC_cellB (n := 1) (by kernel_rfl) (by kernel_rfl) (mc_17 hR))))) ?_
  refine cf_go 3 ?_
  refine cf_val 32 (.int .i64 ((k : Nat) : Int)) H (by kernel_rfl) ((by kernel_rfl : _ = val (aload T8 3 (.pointer (some ⟨M, 18, none⟩)) H) H).trans (val_of ((aload_at gM).trans (aloadC_cellB (n := 1) (by kernel_rfl) (by kernel_rfl) (mc_18 hR))))) ?_
  refine cf_val 33 (.pointer (some ⟨C, 0 + k * 5, none⟩)) H (by kernel_rfl) ((by kernel_rfl : _ = val (bif (k : Nat).blt is.length then some (.pointer (some ⟨C, 0 + k * 5, none⟩)) else none) H).trans (by rw [show (k : Nat).blt is.length = true from (by rw [blt_dec]; simp only [decide_eq_true_eq]; omega)]; rfl)) ?_
  refine cf_val 34 (.agg #[.int .i64 16, .int .i64 ((rd : Nat) : Int), .int .i64 ((ra : Nat) : Int), .int .i64 ((rb : Nat) : Int), .int .u32 im]) H (by kernel_rfl) ((by kernel_rfl : _ = val (aload T8 48 (.pointer (some ⟨C, 0 + k * 5, none⟩)) H) H).trans (val_of ((aload_at gC).trans (aloadC_rowB (n := 5) (l := [Value.int .i64 16, .int .i64 ((rd : Nat) : Int), .int .i64 ((ra : Nat) : Int), .int .i64 ((rb : Nat) : Int), .int .u32 im]) (by kernel_rfl) (by kernel_rfl) rfl (insC_at is k _ hk))))) ?_
  obtain ⟨H1_, hH1_⟩ : ∃ x : Heap, x = H.push ⟨[Value.int .i64 0, .int .i64 0, .int .i64 0, .int .i64 0, .int .u32 0], 48, false⟩ := ⟨_, rfl⟩
  have nH1_ : H1_.n = H.n + 1 := by rw [hH1_]; rfl
  refine cf_val 3 (.pointer (some ⟨H.n, 0, none⟩)) H1_ (by kernel_rfl) ((by kernel_rfl : _ = some (Res.val (.pointer (some ⟨H.n, 0, none⟩)), H.push ⟨[Value.int .i64 0, .int .i64 0, .int .i64 0, .int .i64 0, .int .u32 0], 48, false⟩)).trans (by rw [← hH1_])) ?_
  have gH1_H_n : H1_.get (H.n) = some ⟨[Value.int .i64 0, .int .i64 0, .int .i64 0, .int .i64 0, .int .u32 0], 48, false⟩ := by rw [hH1_]; exact (Heap.get_push _ _ _).trans (if_pos rfl)
  obtain ⟨H2_, hH2_⟩ : ∃ x : Heap, x = H1_.put (H.n) ⟨[Value.int .i64 16, .int .i64 ((rd : Nat) : Int), .int .i64 ((ra : Nat) : Int), .int .i64 ((rb : Nat) : Int), .int .u32 im], 48, false⟩ := ⟨_, rfl⟩
  have nH2_ : H2_.n = H1_.n := by rw [hH2_]; rfl
  refine cf_skip H2_ (by kernel_rfl) ((by kernel_rfl : _ = skp (astore T8 48 (.pointer (some ⟨H.n, 0, none⟩)) (.agg #[.int .i64 16, .int .i64 ((rd : Nat) : Int), .int .i64 ((ra : Nat) : Int), .int .i64 ((rb : Nat) : Int), .int .u32 im]) H1_)).trans (by rw [astore_to gH1_H_n (by kernel_rfl), ← hH2_]; rfl)) ?_
  refine cf_go 6 ?_
  have gH2_H_n : H2_.get (H.n) = some ⟨[Value.int .i64 16, .int .i64 ((rd : Nat) : Int), .int .i64 ((ra : Nat) : Int), .int .i64 ((rb : Nat) : Int), .int .u32 im], 48, false⟩ := by rw [hH2_]; exact (Heap.get_put _ _ _ _).trans (if_pos rfl)
  refine cf_val 37 (.int .i64 ((ra : Nat) : Int)) H2_ (by kernel_rfl) ((by kernel_rfl : _ = val (aload T8 3 (.pointer (some ⟨H.n, 2, none⟩)) H2_) H2_).trans (val_of ((aload_at gH2_H_n).trans (by kernel_rfl)))) ?_
  refine cf_go 2 ?_
  refine cf_val 40 (.pointer (some ⟨M, 0 + ra * 1, none⟩)) H2_ (by kernel_rfl) ((by kernel_rfl : _ = val (bif (ra : Nat).blt 16 then some (.pointer (some ⟨M, 0 + ra * 1, none⟩)) else none) H2_).trans (by rw [show (ra : Nat).blt 16 = true from (by rw [blt_dec]; simp only [decide_eq_true_eq]; omega)]; rfl)) ?_
  have gH2_M : H2_.get (M) = some ⟨(R.map (Value.int .u64) ++ [Value.slice (some ⟨W, 0, none⟩) n n, .slice (some ⟨C, 0, none⟩) is.length (unk + 5), .int .i64 ((k : Nat) : Int)]), 62, false⟩ := by rw [hH2_, Heap.get_put, if_neg (by omega)]; rw [hH1_, Heap.get_push, if_neg (by omega)]; exact gM
  refine cf_val 41 (.int .u64 xa) H2_ (by kernel_rfl) ((by kernel_rfl : _ = val (aload T8 42 (.pointer (some ⟨M, 0 + ra * 1, none⟩)) H2_) H2_).trans (val_of ((aload_at gH2_M).trans (aloadC_cellB (n := 1) (by kernel_rfl) (by kernel_rfl) (mc_r ea))))) ?_
  refine cf_go 2 ?_
  refine cf_val 44 (.int .i64 ((rb : Nat) : Int)) H2_ (by kernel_rfl) ((by kernel_rfl : _ = val (aload T8 3 (.pointer (some ⟨H.n, 3, none⟩)) H2_) H2_).trans (val_of ((aload_at gH2_H_n).trans (by kernel_rfl)))) ?_
  refine cf_go 2 ?_
  refine cf_val 47 (.pointer (some ⟨M, 0 + rb * 1, none⟩)) H2_ (by kernel_rfl) ((by kernel_rfl : _ = val (bif (rb : Nat).blt 16 then some (.pointer (some ⟨M, 0 + rb * 1, none⟩)) else none) H2_).trans (by rw [show (rb : Nat).blt 16 = true from (by rw [blt_dec]; simp only [decide_eq_true_eq]; omega)]; rfl)) ?_
  refine cf_val 48 (.int .u64 xb) H2_ (by kernel_rfl) ((by kernel_rfl : _ = val (aload T8 42 (.pointer (some ⟨M, 0 + rb * 1, none⟩)) H2_) H2_).trans (val_of ((aload_at gH2_M).trans (aloadC_cellB (n := 1) (by kernel_rfl) (by kernel_rfl) (mc_r eb))))) ?_
  refine cf_go 8 ?_
  refine cf_val 51 (.int .u32 im) H2_ (by kernel_rfl) ((by kernel_rfl : _ = val (aload T8 30 (.pointer (some ⟨H.n, 4, none⟩)) H2_) H2_).trans (val_of ((aload_at gH2_H_n).trans (by kernel_rfl)))) ?_
  refine cf_go 1 ?_
  refine cf_see 52 (.int .u64 im) (see_int (x := IntKind.u64.wrap im) (by kernel_rfl) (wu64 rfl (by omega) (by omega))) ?_
  refine cf_go 1 ?_
  refine cf_see 53 (.int .u64 ((pl : Nat) : Int)) (see_int (x := (IntKind.u64.wrap (xa + im))) (by kernel_rfl) hpl) ?_
  refine cf_go 8 ?_
  refine cf_val 57 (.int .i64 ((k : Nat) : Int)) H2_ (by kernel_rfl) ((by kernel_rfl : _ = val (aload T8 3 (.pointer (some ⟨M, 18, none⟩)) H2_) H2_).trans (val_of ((aload_at gH2_M).trans (aloadC_cellB (n := 1) (by kernel_rfl) (by kernel_rfl) (mc_18 hR))))) ?_
  refine cf_go 1 ?_
  refine cf_see 58 (.int .i64 ((k + 1 : Nat) : Int)) (see_int (x := (IntKind.i64.wrap (((k : Nat) : Int) + 1))) (by kernel_rfl) (w64 (by omega) (by omega) (by omega))) ?_
  refine cf_go 7 ?_
  refine cf_val 60 (.int .i64 16) H2_ (by kernel_rfl) ((by kernel_rfl : _ = val (aload T8 3 (.pointer (some ⟨H.n, 0, none⟩)) H2_) H2_).trans (val_of ((aload_at gH2_H_n).trans (by kernel_rfl)))) ?_
  refine cf_go 46 ?_
  refine cf_see 125 (.bool false) (see_bool (by kernel_rfl) ((beq_eq_false_iff_ne.2 (by omega)) : (((xa : Int) == 0)) = false)) ?_
  refine cf_go 1 ?_
  refine cf_val 127 (.int .i64 16) H2_ (by kernel_rfl) ((by kernel_rfl : _ = val (aload T8 3 (.pointer (some ⟨H.n, 0, none⟩)) H2_) H2_).trans (val_of ((aload_at gH2_H_n).trans (by kernel_rfl)))) ?_
  refine cf_go 14 ?_
  obtain ⟨H3_, hH3_⟩ : ∃ x : Heap, x = H2_.put (M) ⟨(R.map (Value.int .u64) ++ [Value.slice (some ⟨W, 0, none⟩) n n, .slice (some ⟨C, 0, none⟩) is.length (unk + 5), .int .i64 ((k + 1 : Nat) : Int)]), 62, false⟩ := ⟨_, rfl⟩
  have nH3_ : H3_.n = H2_.n := by rw [hH3_]; rfl
  refine cf_skip H3_ (by kernel_rfl) ((by kernel_rfl : _ = skp (astore T8 3 (.pointer (some ⟨M, 18, none⟩)) (.int .i64 ((k + 1 : Nat) : Int)) H2_)).trans (by rw [astore_to gH2_M ((astoreC_one (by kernel_rfl) rfl rfl (by rw [ml hR]; omega)).trans (congrArg some (ms_18 hR))), ← hH3_]; rfl)) ?_
  refine cf_go 8 ?_
  have gH3_M : H3_.get (M) = some ⟨(R.map (Value.int .u64) ++ [Value.slice (some ⟨W, 0, none⟩) n n, .slice (some ⟨C, 0, none⟩) is.length (unk + 5), .int .i64 ((k + 1 : Nat) : Int)]), 62, false⟩ := by rw [hH3_]; exact (Heap.get_put _ _ _ _).trans (if_pos rfl)
  have gH3_W : H3_.get (W) = some ⟨(Wd.map (Value.int .u32)), 30, false⟩ := by rw [hH3_, Heap.get_put, if_neg (by omega)]; rw [hH2_, Heap.get_put, if_neg (by omega)]; rw [hH1_, Heap.get_push, if_neg (by omega)]; exact gW
  refine cf_end (.int .i64 0) H3_ (by kernel_rfl) (by kernel_rfl) (by kernel_rfl) ?_
  exact ⟨rfl, by omega, gH3_M, gH3_W, fun b hb h1 h2 => by rw [hH3_, Heap.get_put, if_neg (by omega), hH2_, Heap.get_put, if_neg (by omega), hH1_, Heap.get_push, if_neg (by omega)]⟩
theorem step_bnt {H : Heap} {M W n : Nat} {R Wd : List Int} {C k rd ra rb pl : Nat} {is : List Ins5} { im xa xb : Int} (hk : is[k]? = some (17, (rd : Int), (ra : Int), (rb : Int), im)) (hkl : k < is.length) (hk2 : k < 4611686018427387904) (hrd : rd < 16) (hra : ra < 16) (hrb : rb < 16) (hi0 : 0 ≤ im) (hi1 : im < 4294967296) (ea : R[ra]? = some xa) (eb : R[rb]? = some xb) (ha0 : 0 ≤ xa) (ha1 : xa < 18446744073709551616) (hb0 : 0 ≤ xb) (hb1 : xb < 18446744073709551616) (hpl : IntKind.u64.wrap (xa + im) = ((pl : Nat) : Int)) (hpl2 : pl < 18446744073709551616) (hn : n ≤ 65536) (hWl : Wd.length = n) (gC : H.get C = some ⟨insC is, 48, false⟩) (hC : C < H.n) (hMC : M ≠ C) (hWC : W ≠ C) (gM : H.get M = some ⟨macC R W n (.slice (some ⟨C, 0, none⟩) is.length (unk + 5)) (k : Int), 62, false⟩) (gW : H.get W = some ⟨Wd.map (Value.int .u32), 30, false⟩) (hR : R.length = 16) (hMW : M ≠ W) (hM : M < H.n) (hW : W < H.n) (hx : xa ≠ 0) : ACall Try.prog T8 21 #[.pointer (some ⟨M, 0, none⟩)] H fun r H' => r = .int .i64 0 ∧ MTo H H' 62 M W n (.slice (some ⟨C, 0, none⟩) is.length (unk + 5)) R Wd im := by
  refine acall_cf 144 (initTm 0 #[.pointer (some ⟨M, 0, none⟩)]) rfl f21_fn f21_body rfl rfl ?_
  refine cf_go 11 ?_
  refine cf_val 11 (.int .i64 ((k : Nat) : Int)) H (by kernel_rfl) ((by kernel_rfl : _ = val (aload T8 3 (.pointer (some ⟨M, 18, none⟩)) H) H).trans (val_of ((aload_at gM).trans (aloadC_cellB (n := 1) (by kernel_rfl) (by kernel_rfl) (mc_18 hR))))) ?_
  refine cf_go 1 ?_
  refine cf_see 12 (.bool false) (see_bool (by kernel_rfl) ((decide_eq_false (by omega)) : ((decide (((k : Nat) : Int) < 0))) = false)) ?_
  refine cf_go 4 ?_
  refine cf_val 17 (.int .i64 ((k : Nat) : Int)) H (by kernel_rfl) ((by kernel_rfl : _ = val (aload T8 3 (.pointer (some ⟨M, 18, none⟩)) H) H).trans (val_of ((aload_at gM).trans (aloadC_cellB (n := 1) (by kernel_rfl) (by kernel_rfl) (mc_18 hR))))) ?_
  refine cf_go 3 ?_
  refine cf_val 21 (.slice (some ⟨C, 0, none⟩) is.length (unk + 5)) H (by kernel_rfl) ((by kernel_rfl : _ = val (aload T8 22 (.pointer (some ⟨M, 17, none⟩)) H) H).trans (val_of ((aload_at gM).trans (aloadC_cellB (n := 1) (by kernel_rfl) (by kernel_rfl) (mc_17 hR))))) ?_
  refine cf_go 2 ?_
  refine cf_see 23 (.bool false) (see_bool (by kernel_rfl) ((decide_eq_false (by omega)) : ((decide (((k : Nat) : Int) ≥ ((is.length : Nat) : Int)))) = false)) ?_
  refine cf_go 11 ?_
  refine cf_val 28 (.slice (some ⟨C, 0, none⟩) is.length (unk + 5)) H (by kernel_rfl) ((by kernel_rfl : _ = val (aload T8 22 (.pointer (some ⟨M, 17, none⟩)) H) H).trans (val_of ((aload_at gM).trans (aloadC_cellB (n := 1) (by kernel_rfl) (by kernel_rfl) (mc_17 hR))))) ?_
  refine cf_go 3 ?_
  refine cf_val 32 (.int .i64 ((k : Nat) : Int)) H (by kernel_rfl) ((by kernel_rfl : _ = val (aload T8 3 (.pointer (some ⟨M, 18, none⟩)) H) H).trans (val_of ((aload_at gM).trans (aloadC_cellB (n := 1) (by kernel_rfl) (by kernel_rfl) (mc_18 hR))))) ?_
  refine cf_val 33 (.pointer (some ⟨C, 0 + k * 5, none⟩)) H (by kernel_rfl) ((by kernel_rfl : _ = val (bif (k : Nat).blt is.length then some (.pointer (some ⟨C, 0 + k * 5, none⟩)) else none) H).trans (by rw [show (k : Nat).blt is.length = true from (by rw [blt_dec]; simp only [decide_eq_true_eq]; omega)]; rfl)) ?_
  refine cf_val 34 (.agg #[.int .i64 17, .int .i64 ((rd : Nat) : Int), .int .i64 ((ra : Nat) : Int), .int .i64 ((rb : Nat) : Int), .int .u32 im]) H (by kernel_rfl) ((by kernel_rfl : _ = val (aload T8 48 (.pointer (some ⟨C, 0 + k * 5, none⟩)) H) H).trans (val_of ((aload_at gC).trans (aloadC_rowB (n := 5) (l := [Value.int .i64 17, .int .i64 ((rd : Nat) : Int), .int .i64 ((ra : Nat) : Int), .int .i64 ((rb : Nat) : Int), .int .u32 im]) (by kernel_rfl) (by kernel_rfl) rfl (insC_at is k _ hk))))) ?_
  obtain ⟨H1_, hH1_⟩ : ∃ x : Heap, x = H.push ⟨[Value.int .i64 0, .int .i64 0, .int .i64 0, .int .i64 0, .int .u32 0], 48, false⟩ := ⟨_, rfl⟩
  have nH1_ : H1_.n = H.n + 1 := by rw [hH1_]; rfl
  refine cf_val 3 (.pointer (some ⟨H.n, 0, none⟩)) H1_ (by kernel_rfl) ((by kernel_rfl : _ = some (Res.val (.pointer (some ⟨H.n, 0, none⟩)), H.push ⟨[Value.int .i64 0, .int .i64 0, .int .i64 0, .int .i64 0, .int .u32 0], 48, false⟩)).trans (by rw [← hH1_])) ?_
  have gH1_H_n : H1_.get (H.n) = some ⟨[Value.int .i64 0, .int .i64 0, .int .i64 0, .int .i64 0, .int .u32 0], 48, false⟩ := by rw [hH1_]; exact (Heap.get_push _ _ _).trans (if_pos rfl)
  obtain ⟨H2_, hH2_⟩ : ∃ x : Heap, x = H1_.put (H.n) ⟨[Value.int .i64 17, .int .i64 ((rd : Nat) : Int), .int .i64 ((ra : Nat) : Int), .int .i64 ((rb : Nat) : Int), .int .u32 im], 48, false⟩ := ⟨_, rfl⟩
  have nH2_ : H2_.n = H1_.n := by rw [hH2_]; rfl
  refine cf_skip H2_ (by kernel_rfl) ((by kernel_rfl : _ = skp (astore T8 48 (.pointer (some ⟨H.n, 0, none⟩)) (.agg #[.int .i64 17, .int .i64 ((rd : Nat) : Int), .int .i64 ((ra : Nat) : Int), .int .i64 ((rb : Nat) : Int), .int .u32 im]) H1_)).trans (by rw [astore_to gH1_H_n (by kernel_rfl), ← hH2_]; rfl)) ?_
  refine cf_go 6 ?_
  have gH2_H_n : H2_.get (H.n) = some ⟨[Value.int .i64 17, .int .i64 ((rd : Nat) : Int), .int .i64 ((ra : Nat) : Int), .int .i64 ((rb : Nat) : Int), .int .u32 im], 48, false⟩ := by rw [hH2_]; exact (Heap.get_put _ _ _ _).trans (if_pos rfl)
  refine cf_val 37 (.int .i64 ((ra : Nat) : Int)) H2_ (by kernel_rfl) ((by kernel_rfl : _ = val (aload T8 3 (.pointer (some ⟨H.n, 2, none⟩)) H2_) H2_).trans (val_of ((aload_at gH2_H_n).trans (by kernel_rfl)))) ?_
  refine cf_go 2 ?_
  refine cf_val 40 (.pointer (some ⟨M, 0 + ra * 1, none⟩)) H2_ (by kernel_rfl) ((by kernel_rfl : _ = val (bif (ra : Nat).blt 16 then some (.pointer (some ⟨M, 0 + ra * 1, none⟩)) else none) H2_).trans (by rw [show (ra : Nat).blt 16 = true from (by rw [blt_dec]; simp only [decide_eq_true_eq]; omega)]; rfl)) ?_
  have gH2_M : H2_.get (M) = some ⟨(R.map (Value.int .u64) ++ [Value.slice (some ⟨W, 0, none⟩) n n, .slice (some ⟨C, 0, none⟩) is.length (unk + 5), .int .i64 ((k : Nat) : Int)]), 62, false⟩ := by rw [hH2_, Heap.get_put, if_neg (by omega)]; rw [hH1_, Heap.get_push, if_neg (by omega)]; exact gM
  refine cf_val 41 (.int .u64 xa) H2_ (by kernel_rfl) ((by kernel_rfl : _ = val (aload T8 42 (.pointer (some ⟨M, 0 + ra * 1, none⟩)) H2_) H2_).trans (val_of ((aload_at gH2_M).trans (aloadC_cellB (n := 1) (by kernel_rfl) (by kernel_rfl) (mc_r ea))))) ?_
  refine cf_go 2 ?_
  refine cf_val 44 (.int .i64 ((rb : Nat) : Int)) H2_ (by kernel_rfl) ((by kernel_rfl : _ = val (aload T8 3 (.pointer (some ⟨H.n, 3, none⟩)) H2_) H2_).trans (val_of ((aload_at gH2_H_n).trans (by kernel_rfl)))) ?_
  refine cf_go 2 ?_
  refine cf_val 47 (.pointer (some ⟨M, 0 + rb * 1, none⟩)) H2_ (by kernel_rfl) ((by kernel_rfl : _ = val (bif (rb : Nat).blt 16 then some (.pointer (some ⟨M, 0 + rb * 1, none⟩)) else none) H2_).trans (by rw [show (rb : Nat).blt 16 = true from (by rw [blt_dec]; simp only [decide_eq_true_eq]; omega)]; rfl)) ?_
  refine cf_val 48 (.int .u64 xb) H2_ (by kernel_rfl) ((by kernel_rfl : _ = val (aload T8 42 (.pointer (some ⟨M, 0 + rb * 1, none⟩)) H2_) H2_).trans (val_of ((aload_at gH2_M).trans (aloadC_cellB (n := 1) (by kernel_rfl) (by kernel_rfl) (mc_r eb))))) ?_
  refine cf_go 8 ?_
  refine cf_val 51 (.int .u32 im) H2_ (by kernel_rfl) ((by kernel_rfl : _ = val (aload T8 30 (.pointer (some ⟨H.n, 4, none⟩)) H2_) H2_).trans (val_of ((aload_at gH2_H_n).trans (by kernel_rfl)))) ?_
  refine cf_go 1 ?_
  refine cf_see 52 (.int .u64 im) (see_int (x := IntKind.u64.wrap im) (by kernel_rfl) (wu64 rfl (by omega) (by omega))) ?_
  refine cf_go 1 ?_
  refine cf_see 53 (.int .u64 ((pl : Nat) : Int)) (see_int (x := (IntKind.u64.wrap (xa + im))) (by kernel_rfl) hpl) ?_
  refine cf_go 8 ?_
  refine cf_val 57 (.int .i64 ((k : Nat) : Int)) H2_ (by kernel_rfl) ((by kernel_rfl : _ = val (aload T8 3 (.pointer (some ⟨M, 18, none⟩)) H2_) H2_).trans (val_of ((aload_at gH2_M).trans (aloadC_cellB (n := 1) (by kernel_rfl) (by kernel_rfl) (mc_18 hR))))) ?_
  refine cf_go 1 ?_
  refine cf_see 58 (.int .i64 ((k + 1 : Nat) : Int)) (see_int (x := (IntKind.i64.wrap (((k : Nat) : Int) + 1))) (by kernel_rfl) (w64 (by omega) (by omega) (by omega))) ?_
  refine cf_go 7 ?_
  refine cf_val 60 (.int .i64 17) H2_ (by kernel_rfl) ((by kernel_rfl : _ = val (aload T8 3 (.pointer (some ⟨H.n, 0, none⟩)) H2_) H2_).trans (val_of ((aload_at gH2_H_n).trans (by kernel_rfl)))) ?_
  refine cf_go 49 ?_
  refine cf_see 125 (.bool false) (see_bool (by kernel_rfl) ((beq_eq_false_iff_ne.2 (by omega)) : (((xa : Int) == 0)) = false)) ?_
  refine cf_go 1 ?_
  refine cf_val 127 (.int .i64 17) H2_ (by kernel_rfl) ((by kernel_rfl : _ = val (aload T8 3 (.pointer (some ⟨H.n, 0, none⟩)) H2_) H2_).trans (val_of ((aload_at gH2_H_n).trans (by kernel_rfl)))) ?_
  refine cf_go 7 ?_
  refine cf_val 131 (.int .u32 im) H2_ (by kernel_rfl) ((by kernel_rfl : _ = val (aload T8 30 (.pointer (some ⟨H.n, 4, none⟩)) H2_) H2_).trans (val_of ((aload_at gH2_H_n).trans (by kernel_rfl)))) ?_
  refine cf_go 1 ?_
  refine cf_see 132 (.int .i64 im) (see_int (x := IntKind.i64.wrap im) (by kernel_rfl) (w64 rfl (by omega) (by omega))) ?_
  refine cf_go 10 ?_
  obtain ⟨H3_, hH3_⟩ : ∃ x : Heap, x = H2_.put (M) ⟨(R.map (Value.int .u64) ++ [Value.slice (some ⟨W, 0, none⟩) n n, .slice (some ⟨C, 0, none⟩) is.length (unk + 5), .int .i64 im]), 62, false⟩ := ⟨_, rfl⟩
  have nH3_ : H3_.n = H2_.n := by rw [hH3_]; rfl
  refine cf_skip H3_ (by kernel_rfl) ((by kernel_rfl : _ = skp (astore T8 3 (.pointer (some ⟨M, 18, none⟩)) (.int .i64 im) H2_)).trans (by rw [astore_to gH2_M ((astoreC_one (by kernel_rfl) rfl rfl (by rw [ml hR]; omega)).trans (congrArg some (ms_18 hR))), ← hH3_]; rfl)) ?_
  refine cf_go 8 ?_
  have gH3_M : H3_.get (M) = some ⟨(R.map (Value.int .u64) ++ [Value.slice (some ⟨W, 0, none⟩) n n, .slice (some ⟨C, 0, none⟩) is.length (unk + 5), .int .i64 im]), 62, false⟩ := by rw [hH3_]; exact (Heap.get_put _ _ _ _).trans (if_pos rfl)
  have gH3_W : H3_.get (W) = some ⟨(Wd.map (Value.int .u32)), 30, false⟩ := by rw [hH3_, Heap.get_put, if_neg (by omega)]; rw [hH2_, Heap.get_put, if_neg (by omega)]; rw [hH1_, Heap.get_push, if_neg (by omega)]; exact gW
  refine cf_end (.int .i64 0) H3_ (by kernel_rfl) (by kernel_rfl) (by kernel_rfl) ?_
  exact ⟨rfl, by omega, gH3_M, gH3_W, fun b hb h1 h2 => by rw [hH3_, Heap.get_put, if_neg (by omega), hH2_, Heap.get_put, if_neg (by omega), hH1_, Heap.get_push, if_neg (by omega)]⟩
theorem step_bnf {H : Heap} {M W n : Nat} {R Wd : List Int} {C k rd ra rb pl : Nat} {is : List Ins5} { im xa xb : Int} (hk : is[k]? = some (17, (rd : Int), (ra : Int), (rb : Int), im)) (hkl : k < is.length) (hk2 : k < 4611686018427387904) (hrd : rd < 16) (hra : ra < 16) (hrb : rb < 16) (hi0 : 0 ≤ im) (hi1 : im < 4294967296) (ea : R[ra]? = some xa) (eb : R[rb]? = some xb) (ha0 : 0 ≤ xa) (ha1 : xa < 18446744073709551616) (hb0 : 0 ≤ xb) (hb1 : xb < 18446744073709551616) (hpl : IntKind.u64.wrap (xa + im) = ((pl : Nat) : Int)) (hpl2 : pl < 18446744073709551616) (hn : n ≤ 65536) (hWl : Wd.length = n) (gC : H.get C = some ⟨insC is, 48, false⟩) (hC : C < H.n) (hMC : M ≠ C) (hWC : W ≠ C) (gM : H.get M = some ⟨macC R W n (.slice (some ⟨C, 0, none⟩) is.length (unk + 5)) (k : Int), 62, false⟩) (gW : H.get W = some ⟨Wd.map (Value.int .u32), 30, false⟩) (hR : R.length = 16) (hMW : M ≠ W) (hM : M < H.n) (hW : W < H.n) (hx : xa = 0) : ACall Try.prog T8 21 #[.pointer (some ⟨M, 0, none⟩)] H fun r H' => r = .int .i64 0 ∧ MTo H H' 62 M W n (.slice (some ⟨C, 0, none⟩) is.length (unk + 5)) R Wd ((k + 1 : Nat) : Int) := by
  refine acall_cf 144 (initTm 0 #[.pointer (some ⟨M, 0, none⟩)]) rfl f21_fn f21_body rfl rfl ?_
  refine cf_go 11 ?_
  refine cf_val 11 (.int .i64 ((k : Nat) : Int)) H (by kernel_rfl) ((by kernel_rfl : _ = val (aload T8 3 (.pointer (some ⟨M, 18, none⟩)) H) H).trans (val_of ((aload_at gM).trans (aloadC_cellB (n := 1) (by kernel_rfl) (by kernel_rfl) (mc_18 hR))))) ?_
  refine cf_go 1 ?_
  refine cf_see 12 (.bool false) (see_bool (by kernel_rfl) ((decide_eq_false (by omega)) : ((decide (((k : Nat) : Int) < 0))) = false)) ?_
  refine cf_go 4 ?_
  refine cf_val 17 (.int .i64 ((k : Nat) : Int)) H (by kernel_rfl) ((by kernel_rfl : _ = val (aload T8 3 (.pointer (some ⟨M, 18, none⟩)) H) H).trans (val_of ((aload_at gM).trans (aloadC_cellB (n := 1) (by kernel_rfl) (by kernel_rfl) (mc_18 hR))))) ?_
  refine cf_go 3 ?_
  refine cf_val 21 (.slice (some ⟨C, 0, none⟩) is.length (unk + 5)) H (by kernel_rfl) ((by kernel_rfl : _ = val (aload T8 22 (.pointer (some ⟨M, 17, none⟩)) H) H).trans (val_of ((aload_at gM).trans (aloadC_cellB (n := 1) (by kernel_rfl) (by kernel_rfl) (mc_17 hR))))) ?_
  refine cf_go 2 ?_
  refine cf_see 23 (.bool false) (see_bool (by kernel_rfl) ((decide_eq_false (by omega)) : ((decide (((k : Nat) : Int) ≥ ((is.length : Nat) : Int)))) = false)) ?_
  refine cf_go 11 ?_
  refine cf_val 28 (.slice (some ⟨C, 0, none⟩) is.length (unk + 5)) H (by kernel_rfl) ((by kernel_rfl : _ = val (aload T8 22 (.pointer (some ⟨M, 17, none⟩)) H) H).trans (val_of ((aload_at gM).trans (aloadC_cellB (n := 1) (by kernel_rfl) (by kernel_rfl) (mc_17 hR))))) ?_
  refine cf_go 3 ?_
  refine cf_val 32 (.int .i64 ((k : Nat) : Int)) H (by kernel_rfl) ((by kernel_rfl : _ = val (aload T8 3 (.pointer (some ⟨M, 18, none⟩)) H) H).trans (val_of ((aload_at gM).trans (aloadC_cellB (n := 1) (by kernel_rfl) (by kernel_rfl) (mc_18 hR))))) ?_
  refine cf_val 33 (.pointer (some ⟨C, 0 + k * 5, none⟩)) H (by kernel_rfl) ((by kernel_rfl : _ = val (bif (k : Nat).blt is.length then some (.pointer (some ⟨C, 0 + k * 5, none⟩)) else none) H).trans (by rw [show (k : Nat).blt is.length = true from (by rw [blt_dec]; simp only [decide_eq_true_eq]; omega)]; rfl)) ?_
  refine cf_val 34 (.agg #[.int .i64 17, .int .i64 ((rd : Nat) : Int), .int .i64 ((ra : Nat) : Int), .int .i64 ((rb : Nat) : Int), .int .u32 im]) H (by kernel_rfl) ((by kernel_rfl : _ = val (aload T8 48 (.pointer (some ⟨C, 0 + k * 5, none⟩)) H) H).trans (val_of ((aload_at gC).trans (aloadC_rowB (n := 5) (l := [Value.int .i64 17, .int .i64 ((rd : Nat) : Int), .int .i64 ((ra : Nat) : Int), .int .i64 ((rb : Nat) : Int), .int .u32 im]) (by kernel_rfl) (by kernel_rfl) rfl (insC_at is k _ hk))))) ?_
  obtain ⟨H1_, hH1_⟩ : ∃ x : Heap, x = H.push ⟨[Value.int .i64 0, .int .i64 0, .int .i64 0, .int .i64 0, .int .u32 0], 48, false⟩ := ⟨_, rfl⟩
  have nH1_ : H1_.n = H.n + 1 := by rw [hH1_]; rfl
  refine cf_val 3 (.pointer (some ⟨H.n, 0, none⟩)) H1_ (by kernel_rfl) ((by kernel_rfl : _ = some (Res.val (.pointer (some ⟨H.n, 0, none⟩)), H.push ⟨[Value.int .i64 0, .int .i64 0, .int .i64 0, .int .i64 0, .int .u32 0], 48, false⟩)).trans (by rw [← hH1_])) ?_
  have gH1_H_n : H1_.get (H.n) = some ⟨[Value.int .i64 0, .int .i64 0, .int .i64 0, .int .i64 0, .int .u32 0], 48, false⟩ := by rw [hH1_]; exact (Heap.get_push _ _ _).trans (if_pos rfl)
  obtain ⟨H2_, hH2_⟩ : ∃ x : Heap, x = H1_.put (H.n) ⟨[Value.int .i64 17, .int .i64 ((rd : Nat) : Int), .int .i64 ((ra : Nat) : Int), .int .i64 ((rb : Nat) : Int), .int .u32 im], 48, false⟩ := ⟨_, rfl⟩
  have nH2_ : H2_.n = H1_.n := by rw [hH2_]; rfl
  refine cf_skip H2_ (by kernel_rfl) ((by kernel_rfl : _ = skp (astore T8 48 (.pointer (some ⟨H.n, 0, none⟩)) (.agg #[.int .i64 17, .int .i64 ((rd : Nat) : Int), .int .i64 ((ra : Nat) : Int), .int .i64 ((rb : Nat) : Int), .int .u32 im]) H1_)).trans (by rw [astore_to gH1_H_n (by kernel_rfl), ← hH2_]; rfl)) ?_
  refine cf_go 6 ?_
  have gH2_H_n : H2_.get (H.n) = some ⟨[Value.int .i64 17, .int .i64 ((rd : Nat) : Int), .int .i64 ((ra : Nat) : Int), .int .i64 ((rb : Nat) : Int), .int .u32 im], 48, false⟩ := by rw [hH2_]; exact (Heap.get_put _ _ _ _).trans (if_pos rfl)
  refine cf_val 37 (.int .i64 ((ra : Nat) : Int)) H2_ (by kernel_rfl) ((by kernel_rfl : _ = val (aload T8 3 (.pointer (some ⟨H.n, 2, none⟩)) H2_) H2_).trans (val_of ((aload_at gH2_H_n).trans (by kernel_rfl)))) ?_
  refine cf_go 2 ?_
  refine cf_val 40 (.pointer (some ⟨M, 0 + ra * 1, none⟩)) H2_ (by kernel_rfl) ((by kernel_rfl : _ = val (bif (ra : Nat).blt 16 then some (.pointer (some ⟨M, 0 + ra * 1, none⟩)) else none) H2_).trans (by rw [show (ra : Nat).blt 16 = true from (by rw [blt_dec]; simp only [decide_eq_true_eq]; omega)]; rfl)) ?_
  have gH2_M : H2_.get (M) = some ⟨(R.map (Value.int .u64) ++ [Value.slice (some ⟨W, 0, none⟩) n n, .slice (some ⟨C, 0, none⟩) is.length (unk + 5), .int .i64 ((k : Nat) : Int)]), 62, false⟩ := by rw [hH2_, Heap.get_put, if_neg (by omega)]; rw [hH1_, Heap.get_push, if_neg (by omega)]; exact gM
  refine cf_val 41 (.int .u64 xa) H2_ (by kernel_rfl) ((by kernel_rfl : _ = val (aload T8 42 (.pointer (some ⟨M, 0 + ra * 1, none⟩)) H2_) H2_).trans (val_of ((aload_at gH2_M).trans (aloadC_cellB (n := 1) (by kernel_rfl) (by kernel_rfl) (mc_r ea))))) ?_
  refine cf_go 2 ?_
  refine cf_val 44 (.int .i64 ((rb : Nat) : Int)) H2_ (by kernel_rfl) ((by kernel_rfl : _ = val (aload T8 3 (.pointer (some ⟨H.n, 3, none⟩)) H2_) H2_).trans (val_of ((aload_at gH2_H_n).trans (by kernel_rfl)))) ?_
  refine cf_go 2 ?_
  refine cf_val 47 (.pointer (some ⟨M, 0 + rb * 1, none⟩)) H2_ (by kernel_rfl) ((by kernel_rfl : _ = val (bif (rb : Nat).blt 16 then some (.pointer (some ⟨M, 0 + rb * 1, none⟩)) else none) H2_).trans (by rw [show (rb : Nat).blt 16 = true from (by rw [blt_dec]; simp only [decide_eq_true_eq]; omega)]; rfl)) ?_
  refine cf_val 48 (.int .u64 xb) H2_ (by kernel_rfl) ((by kernel_rfl : _ = val (aload T8 42 (.pointer (some ⟨M, 0 + rb * 1, none⟩)) H2_) H2_).trans (val_of ((aload_at gH2_M).trans (aloadC_cellB (n := 1) (by kernel_rfl) (by kernel_rfl) (mc_r eb))))) ?_
  refine cf_go 8 ?_
  refine cf_val 51 (.int .u32 im) H2_ (by kernel_rfl) ((by kernel_rfl : _ = val (aload T8 30 (.pointer (some ⟨H.n, 4, none⟩)) H2_) H2_).trans (val_of ((aload_at gH2_H_n).trans (by kernel_rfl)))) ?_
  refine cf_go 1 ?_
  refine cf_see 52 (.int .u64 im) (see_int (x := IntKind.u64.wrap im) (by kernel_rfl) (wu64 rfl (by omega) (by omega))) ?_
  refine cf_go 1 ?_
  refine cf_see 53 (.int .u64 ((pl : Nat) : Int)) (see_int (x := (IntKind.u64.wrap (xa + im))) (by kernel_rfl) hpl) ?_
  refine cf_go 8 ?_
  refine cf_val 57 (.int .i64 ((k : Nat) : Int)) H2_ (by kernel_rfl) ((by kernel_rfl : _ = val (aload T8 3 (.pointer (some ⟨M, 18, none⟩)) H2_) H2_).trans (val_of ((aload_at gH2_M).trans (aloadC_cellB (n := 1) (by kernel_rfl) (by kernel_rfl) (mc_18 hR))))) ?_
  refine cf_go 1 ?_
  refine cf_see 58 (.int .i64 ((k + 1 : Nat) : Int)) (see_int (x := (IntKind.i64.wrap (((k : Nat) : Int) + 1))) (by kernel_rfl) (w64 (by omega) (by omega) (by omega))) ?_
  refine cf_go 7 ?_
  refine cf_val 60 (.int .i64 17) H2_ (by kernel_rfl) ((by kernel_rfl : _ = val (aload T8 3 (.pointer (some ⟨H.n, 0, none⟩)) H2_) H2_).trans (val_of ((aload_at gH2_H_n).trans (by kernel_rfl)))) ?_
  refine cf_go 49 ?_
  refine cf_see 125 (.bool true) (see_bool (by kernel_rfl) ((beq_iff_eq.2 (by omega)) : (((xa : Int) == 0)) = true)) ?_
  refine cf_go 1 ?_
  refine cf_val 127 (.int .i64 17) H2_ (by kernel_rfl) ((by kernel_rfl : _ = val (aload T8 3 (.pointer (some ⟨H.n, 0, none⟩)) H2_) H2_).trans (val_of ((aload_at gH2_H_n).trans (by kernel_rfl)))) ?_
  refine cf_go 14 ?_
  obtain ⟨H3_, hH3_⟩ : ∃ x : Heap, x = H2_.put (M) ⟨(R.map (Value.int .u64) ++ [Value.slice (some ⟨W, 0, none⟩) n n, .slice (some ⟨C, 0, none⟩) is.length (unk + 5), .int .i64 ((k + 1 : Nat) : Int)]), 62, false⟩ := ⟨_, rfl⟩
  have nH3_ : H3_.n = H2_.n := by rw [hH3_]; rfl
  refine cf_skip H3_ (by kernel_rfl) ((by kernel_rfl : _ = skp (astore T8 3 (.pointer (some ⟨M, 18, none⟩)) (.int .i64 ((k + 1 : Nat) : Int)) H2_)).trans (by rw [astore_to gH2_M ((astoreC_one (by kernel_rfl) rfl rfl (by rw [ml hR]; omega)).trans (congrArg some (ms_18 hR))), ← hH3_]; rfl)) ?_
  refine cf_go 8 ?_
  have gH3_M : H3_.get (M) = some ⟨(R.map (Value.int .u64) ++ [Value.slice (some ⟨W, 0, none⟩) n n, .slice (some ⟨C, 0, none⟩) is.length (unk + 5), .int .i64 ((k + 1 : Nat) : Int)]), 62, false⟩ := by rw [hH3_]; exact (Heap.get_put _ _ _ _).trans (if_pos rfl)
  have gH3_W : H3_.get (W) = some ⟨(Wd.map (Value.int .u32)), 30, false⟩ := by rw [hH3_, Heap.get_put, if_neg (by omega)]; rw [hH2_, Heap.get_put, if_neg (by omega)]; rw [hH1_, Heap.get_push, if_neg (by omega)]; exact gW
  refine cf_end (.int .i64 0) H3_ (by kernel_rfl) (by kernel_rfl) (by kernel_rfl) ?_
  exact ⟨rfl, by omega, gH3_M, gH3_W, fun b hb h1 h2 => by rw [hH3_, Heap.get_put, if_neg (by omega), hH2_, Heap.get_put, if_neg (by omega), hH1_, Heap.get_push, if_neg (by omega)]⟩
theorem step_jmp {H : Heap} {M W n : Nat} {R Wd : List Int} {C k rd ra rb pl : Nat} {is : List Ins5} { im xa xb : Int} (hk : is[k]? = some (18, (rd : Int), (ra : Int), (rb : Int), im)) (hkl : k < is.length) (hk2 : k < 4611686018427387904) (hrd : rd < 16) (hra : ra < 16) (hrb : rb < 16) (hi0 : 0 ≤ im) (hi1 : im < 4294967296) (ea : R[ra]? = some xa) (eb : R[rb]? = some xb) (ha0 : 0 ≤ xa) (ha1 : xa < 18446744073709551616) (hb0 : 0 ≤ xb) (hb1 : xb < 18446744073709551616) (hpl : IntKind.u64.wrap (xa + im) = ((pl : Nat) : Int)) (hpl2 : pl < 18446744073709551616) (hn : n ≤ 65536) (hWl : Wd.length = n) (gC : H.get C = some ⟨insC is, 48, false⟩) (hC : C < H.n) (hMC : M ≠ C) (hWC : W ≠ C) (gM : H.get M = some ⟨macC R W n (.slice (some ⟨C, 0, none⟩) is.length (unk + 5)) (k : Int), 62, false⟩) (gW : H.get W = some ⟨Wd.map (Value.int .u32), 30, false⟩) (hR : R.length = 16) (hMW : M ≠ W) (hM : M < H.n) (hW : W < H.n)  : ACall Try.prog T8 21 #[.pointer (some ⟨M, 0, none⟩)] H fun r H' => r = .int .i64 0 ∧ MTo H H' 62 M W n (.slice (some ⟨C, 0, none⟩) is.length (unk + 5)) R Wd im := by
  refine acall_cf 144 (initTm 0 #[.pointer (some ⟨M, 0, none⟩)]) rfl f21_fn f21_body rfl rfl ?_
  refine cf_go 11 ?_
  refine cf_val 11 (.int .i64 ((k : Nat) : Int)) H (by kernel_rfl) ((by kernel_rfl : _ = val (aload T8 3 (.pointer (some ⟨M, 18, none⟩)) H) H).trans (val_of ((aload_at gM).trans (aloadC_cellB (n := 1) (by kernel_rfl) (by kernel_rfl) (mc_18 hR))))) ?_
  refine cf_go 1 ?_
  refine cf_see 12 (.bool false) (see_bool (by kernel_rfl) ((decide_eq_false (by omega)) : ((decide (((k : Nat) : Int) < 0))) = false)) ?_
  refine cf_go 4 ?_
  refine cf_val 17 (.int .i64 ((k : Nat) : Int)) H (by kernel_rfl) ((by kernel_rfl : _ = val (aload T8 3 (.pointer (some ⟨M, 18, none⟩)) H) H).trans (val_of ((aload_at gM).trans (aloadC_cellB (n := 1) (by kernel_rfl) (by kernel_rfl) (mc_18 hR))))) ?_
  refine cf_go 3 ?_
  refine cf_val 21 (.slice (some ⟨C, 0, none⟩) is.length (unk + 5)) H (by kernel_rfl) ((by kernel_rfl : _ = val (aload T8 22 (.pointer (some ⟨M, 17, none⟩)) H) H).trans (val_of ((aload_at gM).trans (aloadC_cellB (n := 1) (by kernel_rfl) (by kernel_rfl) (mc_17 hR))))) ?_
  refine cf_go 2 ?_
  refine cf_see 23 (.bool false) (see_bool (by kernel_rfl) ((decide_eq_false (by omega)) : ((decide (((k : Nat) : Int) ≥ ((is.length : Nat) : Int)))) = false)) ?_
  refine cf_go 11 ?_
  refine cf_val 28 (.slice (some ⟨C, 0, none⟩) is.length (unk + 5)) H (by kernel_rfl) ((by kernel_rfl : _ = val (aload T8 22 (.pointer (some ⟨M, 17, none⟩)) H) H).trans (val_of ((aload_at gM).trans (aloadC_cellB (n := 1) (by kernel_rfl) (by kernel_rfl) (mc_17 hR))))) ?_
  refine cf_go 3 ?_
  refine cf_val 32 (.int .i64 ((k : Nat) : Int)) H (by kernel_rfl) ((by kernel_rfl : _ = val (aload T8 3 (.pointer (some ⟨M, 18, none⟩)) H) H).trans (val_of ((aload_at gM).trans (aloadC_cellB (n := 1) (by kernel_rfl) (by kernel_rfl) (mc_18 hR))))) ?_
  refine cf_val 33 (.pointer (some ⟨C, 0 + k * 5, none⟩)) H (by kernel_rfl) ((by kernel_rfl : _ = val (bif (k : Nat).blt is.length then some (.pointer (some ⟨C, 0 + k * 5, none⟩)) else none) H).trans (by rw [show (k : Nat).blt is.length = true from (by rw [blt_dec]; simp only [decide_eq_true_eq]; omega)]; rfl)) ?_
  refine cf_val 34 (.agg #[.int .i64 18, .int .i64 ((rd : Nat) : Int), .int .i64 ((ra : Nat) : Int), .int .i64 ((rb : Nat) : Int), .int .u32 im]) H (by kernel_rfl) ((by kernel_rfl : _ = val (aload T8 48 (.pointer (some ⟨C, 0 + k * 5, none⟩)) H) H).trans (val_of ((aload_at gC).trans (aloadC_rowB (n := 5) (l := [Value.int .i64 18, .int .i64 ((rd : Nat) : Int), .int .i64 ((ra : Nat) : Int), .int .i64 ((rb : Nat) : Int), .int .u32 im]) (by kernel_rfl) (by kernel_rfl) rfl (insC_at is k _ hk))))) ?_
  obtain ⟨H1_, hH1_⟩ : ∃ x : Heap, x = H.push ⟨[Value.int .i64 0, .int .i64 0, .int .i64 0, .int .i64 0, .int .u32 0], 48, false⟩ := ⟨_, rfl⟩
  have nH1_ : H1_.n = H.n + 1 := by rw [hH1_]; rfl
  refine cf_val 3 (.pointer (some ⟨H.n, 0, none⟩)) H1_ (by kernel_rfl) ((by kernel_rfl : _ = some (Res.val (.pointer (some ⟨H.n, 0, none⟩)), H.push ⟨[Value.int .i64 0, .int .i64 0, .int .i64 0, .int .i64 0, .int .u32 0], 48, false⟩)).trans (by rw [← hH1_])) ?_
  have gH1_H_n : H1_.get (H.n) = some ⟨[Value.int .i64 0, .int .i64 0, .int .i64 0, .int .i64 0, .int .u32 0], 48, false⟩ := by rw [hH1_]; exact (Heap.get_push _ _ _).trans (if_pos rfl)
  obtain ⟨H2_, hH2_⟩ : ∃ x : Heap, x = H1_.put (H.n) ⟨[Value.int .i64 18, .int .i64 ((rd : Nat) : Int), .int .i64 ((ra : Nat) : Int), .int .i64 ((rb : Nat) : Int), .int .u32 im], 48, false⟩ := ⟨_, rfl⟩
  have nH2_ : H2_.n = H1_.n := by rw [hH2_]; rfl
  refine cf_skip H2_ (by kernel_rfl) ((by kernel_rfl : _ = skp (astore T8 48 (.pointer (some ⟨H.n, 0, none⟩)) (.agg #[.int .i64 18, .int .i64 ((rd : Nat) : Int), .int .i64 ((ra : Nat) : Int), .int .i64 ((rb : Nat) : Int), .int .u32 im]) H1_)).trans (by rw [astore_to gH1_H_n (by kernel_rfl), ← hH2_]; rfl)) ?_
  refine cf_go 6 ?_
  have gH2_H_n : H2_.get (H.n) = some ⟨[Value.int .i64 18, .int .i64 ((rd : Nat) : Int), .int .i64 ((ra : Nat) : Int), .int .i64 ((rb : Nat) : Int), .int .u32 im], 48, false⟩ := by rw [hH2_]; exact (Heap.get_put _ _ _ _).trans (if_pos rfl)
  refine cf_val 37 (.int .i64 ((ra : Nat) : Int)) H2_ (by kernel_rfl) ((by kernel_rfl : _ = val (aload T8 3 (.pointer (some ⟨H.n, 2, none⟩)) H2_) H2_).trans (val_of ((aload_at gH2_H_n).trans (by kernel_rfl)))) ?_
  refine cf_go 2 ?_
  refine cf_val 40 (.pointer (some ⟨M, 0 + ra * 1, none⟩)) H2_ (by kernel_rfl) ((by kernel_rfl : _ = val (bif (ra : Nat).blt 16 then some (.pointer (some ⟨M, 0 + ra * 1, none⟩)) else none) H2_).trans (by rw [show (ra : Nat).blt 16 = true from (by rw [blt_dec]; simp only [decide_eq_true_eq]; omega)]; rfl)) ?_
  have gH2_M : H2_.get (M) = some ⟨(R.map (Value.int .u64) ++ [Value.slice (some ⟨W, 0, none⟩) n n, .slice (some ⟨C, 0, none⟩) is.length (unk + 5), .int .i64 ((k : Nat) : Int)]), 62, false⟩ := by rw [hH2_, Heap.get_put, if_neg (by omega)]; rw [hH1_, Heap.get_push, if_neg (by omega)]; exact gM
  refine cf_val 41 (.int .u64 xa) H2_ (by kernel_rfl) ((by kernel_rfl : _ = val (aload T8 42 (.pointer (some ⟨M, 0 + ra * 1, none⟩)) H2_) H2_).trans (val_of ((aload_at gH2_M).trans (aloadC_cellB (n := 1) (by kernel_rfl) (by kernel_rfl) (mc_r ea))))) ?_
  refine cf_go 2 ?_
  refine cf_val 44 (.int .i64 ((rb : Nat) : Int)) H2_ (by kernel_rfl) ((by kernel_rfl : _ = val (aload T8 3 (.pointer (some ⟨H.n, 3, none⟩)) H2_) H2_).trans (val_of ((aload_at gH2_H_n).trans (by kernel_rfl)))) ?_
  refine cf_go 2 ?_
  refine cf_val 47 (.pointer (some ⟨M, 0 + rb * 1, none⟩)) H2_ (by kernel_rfl) ((by kernel_rfl : _ = val (bif (rb : Nat).blt 16 then some (.pointer (some ⟨M, 0 + rb * 1, none⟩)) else none) H2_).trans (by rw [show (rb : Nat).blt 16 = true from (by rw [blt_dec]; simp only [decide_eq_true_eq]; omega)]; rfl)) ?_
  refine cf_val 48 (.int .u64 xb) H2_ (by kernel_rfl) ((by kernel_rfl : _ = val (aload T8 42 (.pointer (some ⟨M, 0 + rb * 1, none⟩)) H2_) H2_).trans (val_of ((aload_at gH2_M).trans (aloadC_cellB (n := 1) (by kernel_rfl) (by kernel_rfl) (mc_r eb))))) ?_
  refine cf_go 8 ?_
  refine cf_val 51 (.int .u32 im) H2_ (by kernel_rfl) ((by kernel_rfl : _ = val (aload T8 30 (.pointer (some ⟨H.n, 4, none⟩)) H2_) H2_).trans (val_of ((aload_at gH2_H_n).trans (by kernel_rfl)))) ?_
  refine cf_go 1 ?_
  refine cf_see 52 (.int .u64 im) (see_int (x := IntKind.u64.wrap im) (by kernel_rfl) (wu64 rfl (by omega) (by omega))) ?_
  refine cf_go 1 ?_
  refine cf_see 53 (.int .u64 ((pl : Nat) : Int)) (see_int (x := (IntKind.u64.wrap (xa + im))) (by kernel_rfl) hpl) ?_
  refine cf_go 8 ?_
  refine cf_val 57 (.int .i64 ((k : Nat) : Int)) H2_ (by kernel_rfl) ((by kernel_rfl : _ = val (aload T8 3 (.pointer (some ⟨M, 18, none⟩)) H2_) H2_).trans (val_of ((aload_at gH2_M).trans (aloadC_cellB (n := 1) (by kernel_rfl) (by kernel_rfl) (mc_18 hR))))) ?_
  refine cf_go 1 ?_
  refine cf_see 58 (.int .i64 ((k + 1 : Nat) : Int)) (see_int (x := (IntKind.i64.wrap (((k : Nat) : Int) + 1))) (by kernel_rfl) (w64 (by omega) (by omega) (by omega))) ?_
  refine cf_go 7 ?_
  refine cf_val 60 (.int .i64 18) H2_ (by kernel_rfl) ((by kernel_rfl : _ = val (aload T8 3 (.pointer (some ⟨H.n, 0, none⟩)) H2_) H2_).trans (val_of ((aload_at gH2_H_n).trans (by kernel_rfl)))) ?_
  refine cf_go 54 ?_
  refine cf_val 136 (.int .u32 im) H2_ (by kernel_rfl) ((by kernel_rfl : _ = val (aload T8 30 (.pointer (some ⟨H.n, 4, none⟩)) H2_) H2_).trans (val_of ((aload_at gH2_H_n).trans (by kernel_rfl)))) ?_
  refine cf_go 1 ?_
  refine cf_see 137 (.int .i64 im) (see_int (x := IntKind.i64.wrap im) (by kernel_rfl) (w64 rfl (by omega) (by omega))) ?_
  refine cf_go 10 ?_
  obtain ⟨H3_, hH3_⟩ : ∃ x : Heap, x = H2_.put (M) ⟨(R.map (Value.int .u64) ++ [Value.slice (some ⟨W, 0, none⟩) n n, .slice (some ⟨C, 0, none⟩) is.length (unk + 5), .int .i64 im]), 62, false⟩ := ⟨_, rfl⟩
  have nH3_ : H3_.n = H2_.n := by rw [hH3_]; rfl
  refine cf_skip H3_ (by kernel_rfl) ((by kernel_rfl : _ = skp (astore T8 3 (.pointer (some ⟨M, 18, none⟩)) (.int .i64 im) H2_)).trans (by rw [astore_to gH2_M ((astoreC_one (by kernel_rfl) rfl rfl (by rw [ml hR]; omega)).trans (congrArg some (ms_18 hR))), ← hH3_]; rfl)) ?_
  refine cf_go 8 ?_
  have gH3_M : H3_.get (M) = some ⟨(R.map (Value.int .u64) ++ [Value.slice (some ⟨W, 0, none⟩) n n, .slice (some ⟨C, 0, none⟩) is.length (unk + 5), .int .i64 im]), 62, false⟩ := by rw [hH3_]; exact (Heap.get_put _ _ _ _).trans (if_pos rfl)
  have gH3_W : H3_.get (W) = some ⟨(Wd.map (Value.int .u32)), 30, false⟩ := by rw [hH3_, Heap.get_put, if_neg (by omega)]; rw [hH2_, Heap.get_put, if_neg (by omega)]; rw [hH1_, Heap.get_push, if_neg (by omega)]; exact gW
  refine cf_end (.int .i64 0) H3_ (by kernel_rfl) (by kernel_rfl) (by kernel_rfl) ?_
  exact ⟨rfl, by omega, gH3_M, gH3_W, fun b hb h1 h2 => by rw [hH3_, Heap.get_put, if_neg (by omega), hH2_, Heap.get_put, if_neg (by omega), hH1_, Heap.get_push, if_neg (by omega)]⟩
theorem step_exit {H : Heap} {M W n : Nat} {R Wd : List Int} {C k rd ra rb pl : Nat} {is : List Ins5} { im xa xb : Int} (hk : is[k]? = some (19, (rd : Int), (ra : Int), (rb : Int), im)) (hkl : k < is.length) (hk2 : k < 4611686018427387904) (hrd : rd < 16) (hra : ra < 16) (hrb : rb < 16) (hi0 : 0 ≤ im) (hi1 : im < 4294967296) (ea : R[ra]? = some xa) (eb : R[rb]? = some xb) (ha0 : 0 ≤ xa) (ha1 : xa < 18446744073709551616) (hb0 : 0 ≤ xb) (hb1 : xb < 18446744073709551616) (hpl : IntKind.u64.wrap (xa + im) = ((pl : Nat) : Int)) (hpl2 : pl < 18446744073709551616) (hn : n ≤ 65536) (hWl : Wd.length = n) (gC : H.get C = some ⟨insC is, 48, false⟩) (hC : C < H.n) (hMC : M ≠ C) (hWC : W ≠ C) (gM : H.get M = some ⟨macC R W n (.slice (some ⟨C, 0, none⟩) is.length (unk + 5)) (k : Int), 62, false⟩) (gW : H.get W = some ⟨Wd.map (Value.int .u32), 30, false⟩) (hR : R.length = 16) (hMW : M ≠ W) (hM : M < H.n) (hW : W < H.n)  : ACall Try.prog T8 21 #[.pointer (some ⟨M, 0, none⟩)] H fun r H' => r = .int .i64 1 ∧ MTo H H' 62 M W n (.slice (some ⟨C, 0, none⟩) is.length (unk + 5)) R Wd ((k : Nat) : Int) := by
  refine acall_cf 144 (initTm 0 #[.pointer (some ⟨M, 0, none⟩)]) rfl f21_fn f21_body rfl rfl ?_
  refine cf_go 11 ?_
  refine cf_val 11 (.int .i64 ((k : Nat) : Int)) H (by kernel_rfl) ((by kernel_rfl : _ = val (aload T8 3 (.pointer (some ⟨M, 18, none⟩)) H) H).trans (val_of ((aload_at gM).trans (aloadC_cellB (n := 1) (by kernel_rfl) (by kernel_rfl) (mc_18 hR))))) ?_
  refine cf_go 1 ?_
  refine cf_see 12 (.bool false) (see_bool (by kernel_rfl) ((decide_eq_false (by omega)) : ((decide (((k : Nat) : Int) < 0))) = false)) ?_
  refine cf_go 4 ?_
  refine cf_val 17 (.int .i64 ((k : Nat) : Int)) H (by kernel_rfl) ((by kernel_rfl : _ = val (aload T8 3 (.pointer (some ⟨M, 18, none⟩)) H) H).trans (val_of ((aload_at gM).trans (aloadC_cellB (n := 1) (by kernel_rfl) (by kernel_rfl) (mc_18 hR))))) ?_
  refine cf_go 3 ?_
  refine cf_val 21 (.slice (some ⟨C, 0, none⟩) is.length (unk + 5)) H (by kernel_rfl) ((by kernel_rfl : _ = val (aload T8 22 (.pointer (some ⟨M, 17, none⟩)) H) H).trans (val_of ((aload_at gM).trans (aloadC_cellB (n := 1) (by kernel_rfl) (by kernel_rfl) (mc_17 hR))))) ?_
  refine cf_go 2 ?_
  refine cf_see 23 (.bool false) (see_bool (by kernel_rfl) ((decide_eq_false (by omega)) : ((decide (((k : Nat) : Int) ≥ ((is.length : Nat) : Int)))) = false)) ?_
  refine cf_go 11 ?_
  refine cf_val 28 (.slice (some ⟨C, 0, none⟩) is.length (unk + 5)) H (by kernel_rfl) ((by kernel_rfl : _ = val (aload T8 22 (.pointer (some ⟨M, 17, none⟩)) H) H).trans (val_of ((aload_at gM).trans (aloadC_cellB (n := 1) (by kernel_rfl) (by kernel_rfl) (mc_17 hR))))) ?_
  refine cf_go 3 ?_
  refine cf_val 32 (.int .i64 ((k : Nat) : Int)) H (by kernel_rfl) ((by kernel_rfl : _ = val (aload T8 3 (.pointer (some ⟨M, 18, none⟩)) H) H).trans (val_of ((aload_at gM).trans (aloadC_cellB (n := 1) (by kernel_rfl) (by kernel_rfl) (mc_18 hR))))) ?_
  refine cf_val 33 (.pointer (some ⟨C, 0 + k * 5, none⟩)) H (by kernel_rfl) ((by kernel_rfl : _ = val (bif (k : Nat).blt is.length then some (.pointer (some ⟨C, 0 + k * 5, none⟩)) else none) H).trans (by rw [show (k : Nat).blt is.length = true from (by rw [blt_dec]; simp only [decide_eq_true_eq]; omega)]; rfl)) ?_
  refine cf_val 34 (.agg #[.int .i64 19, .int .i64 ((rd : Nat) : Int), .int .i64 ((ra : Nat) : Int), .int .i64 ((rb : Nat) : Int), .int .u32 im]) H (by kernel_rfl) ((by kernel_rfl : _ = val (aload T8 48 (.pointer (some ⟨C, 0 + k * 5, none⟩)) H) H).trans (val_of ((aload_at gC).trans (aloadC_rowB (n := 5) (l := [Value.int .i64 19, .int .i64 ((rd : Nat) : Int), .int .i64 ((ra : Nat) : Int), .int .i64 ((rb : Nat) : Int), .int .u32 im]) (by kernel_rfl) (by kernel_rfl) rfl (insC_at is k _ hk))))) ?_
  obtain ⟨H1_, hH1_⟩ : ∃ x : Heap, x = H.push ⟨[Value.int .i64 0, .int .i64 0, .int .i64 0, .int .i64 0, .int .u32 0], 48, false⟩ := ⟨_, rfl⟩
  have nH1_ : H1_.n = H.n + 1 := by rw [hH1_]; rfl
  refine cf_val 3 (.pointer (some ⟨H.n, 0, none⟩)) H1_ (by kernel_rfl) ((by kernel_rfl : _ = some (Res.val (.pointer (some ⟨H.n, 0, none⟩)), H.push ⟨[Value.int .i64 0, .int .i64 0, .int .i64 0, .int .i64 0, .int .u32 0], 48, false⟩)).trans (by rw [← hH1_])) ?_
  have gH1_H_n : H1_.get (H.n) = some ⟨[Value.int .i64 0, .int .i64 0, .int .i64 0, .int .i64 0, .int .u32 0], 48, false⟩ := by rw [hH1_]; exact (Heap.get_push _ _ _).trans (if_pos rfl)
  obtain ⟨H2_, hH2_⟩ : ∃ x : Heap, x = H1_.put (H.n) ⟨[Value.int .i64 19, .int .i64 ((rd : Nat) : Int), .int .i64 ((ra : Nat) : Int), .int .i64 ((rb : Nat) : Int), .int .u32 im], 48, false⟩ := ⟨_, rfl⟩
  have nH2_ : H2_.n = H1_.n := by rw [hH2_]; rfl
  refine cf_skip H2_ (by kernel_rfl) ((by kernel_rfl : _ = skp (astore T8 48 (.pointer (some ⟨H.n, 0, none⟩)) (.agg #[.int .i64 19, .int .i64 ((rd : Nat) : Int), .int .i64 ((ra : Nat) : Int), .int .i64 ((rb : Nat) : Int), .int .u32 im]) H1_)).trans (by rw [astore_to gH1_H_n (by kernel_rfl), ← hH2_]; rfl)) ?_
  refine cf_go 6 ?_
  have gH2_H_n : H2_.get (H.n) = some ⟨[Value.int .i64 19, .int .i64 ((rd : Nat) : Int), .int .i64 ((ra : Nat) : Int), .int .i64 ((rb : Nat) : Int), .int .u32 im], 48, false⟩ := by rw [hH2_]; exact (Heap.get_put _ _ _ _).trans (if_pos rfl)
  refine cf_val 37 (.int .i64 ((ra : Nat) : Int)) H2_ (by kernel_rfl) ((by kernel_rfl : _ = val (aload T8 3 (.pointer (some ⟨H.n, 2, none⟩)) H2_) H2_).trans (val_of ((aload_at gH2_H_n).trans (by kernel_rfl)))) ?_
  refine cf_go 2 ?_
  refine cf_val 40 (.pointer (some ⟨M, 0 + ra * 1, none⟩)) H2_ (by kernel_rfl) ((by kernel_rfl : _ = val (bif (ra : Nat).blt 16 then some (.pointer (some ⟨M, 0 + ra * 1, none⟩)) else none) H2_).trans (by rw [show (ra : Nat).blt 16 = true from (by rw [blt_dec]; simp only [decide_eq_true_eq]; omega)]; rfl)) ?_
  have gH2_M : H2_.get (M) = some ⟨(R.map (Value.int .u64) ++ [Value.slice (some ⟨W, 0, none⟩) n n, .slice (some ⟨C, 0, none⟩) is.length (unk + 5), .int .i64 ((k : Nat) : Int)]), 62, false⟩ := by rw [hH2_, Heap.get_put, if_neg (by omega)]; rw [hH1_, Heap.get_push, if_neg (by omega)]; exact gM
  refine cf_val 41 (.int .u64 xa) H2_ (by kernel_rfl) ((by kernel_rfl : _ = val (aload T8 42 (.pointer (some ⟨M, 0 + ra * 1, none⟩)) H2_) H2_).trans (val_of ((aload_at gH2_M).trans (aloadC_cellB (n := 1) (by kernel_rfl) (by kernel_rfl) (mc_r ea))))) ?_
  refine cf_go 2 ?_
  refine cf_val 44 (.int .i64 ((rb : Nat) : Int)) H2_ (by kernel_rfl) ((by kernel_rfl : _ = val (aload T8 3 (.pointer (some ⟨H.n, 3, none⟩)) H2_) H2_).trans (val_of ((aload_at gH2_H_n).trans (by kernel_rfl)))) ?_
  refine cf_go 2 ?_
  refine cf_val 47 (.pointer (some ⟨M, 0 + rb * 1, none⟩)) H2_ (by kernel_rfl) ((by kernel_rfl : _ = val (bif (rb : Nat).blt 16 then some (.pointer (some ⟨M, 0 + rb * 1, none⟩)) else none) H2_).trans (by rw [show (rb : Nat).blt 16 = true from (by rw [blt_dec]; simp only [decide_eq_true_eq]; omega)]; rfl)) ?_
  refine cf_val 48 (.int .u64 xb) H2_ (by kernel_rfl) ((by kernel_rfl : _ = val (aload T8 42 (.pointer (some ⟨M, 0 + rb * 1, none⟩)) H2_) H2_).trans (val_of ((aload_at gH2_M).trans (aloadC_cellB (n := 1) (by kernel_rfl) (by kernel_rfl) (mc_r eb))))) ?_
  refine cf_go 8 ?_
  refine cf_val 51 (.int .u32 im) H2_ (by kernel_rfl) ((by kernel_rfl : _ = val (aload T8 30 (.pointer (some ⟨H.n, 4, none⟩)) H2_) H2_).trans (val_of ((aload_at gH2_H_n).trans (by kernel_rfl)))) ?_
  refine cf_go 1 ?_
  refine cf_see 52 (.int .u64 im) (see_int (x := IntKind.u64.wrap im) (by kernel_rfl) (wu64 rfl (by omega) (by omega))) ?_
  refine cf_go 1 ?_
  refine cf_see 53 (.int .u64 ((pl : Nat) : Int)) (see_int (x := (IntKind.u64.wrap (xa + im))) (by kernel_rfl) hpl) ?_
  refine cf_go 8 ?_
  refine cf_val 57 (.int .i64 ((k : Nat) : Int)) H2_ (by kernel_rfl) ((by kernel_rfl : _ = val (aload T8 3 (.pointer (some ⟨M, 18, none⟩)) H2_) H2_).trans (val_of ((aload_at gH2_M).trans (aloadC_cellB (n := 1) (by kernel_rfl) (by kernel_rfl) (mc_18 hR))))) ?_
  refine cf_go 1 ?_
  refine cf_see 58 (.int .i64 ((k + 1 : Nat) : Int)) (see_int (x := (IntKind.i64.wrap (((k : Nat) : Int) + 1))) (by kernel_rfl) (w64 (by omega) (by omega) (by omega))) ?_
  refine cf_go 7 ?_
  refine cf_val 60 (.int .i64 19) H2_ (by kernel_rfl) ((by kernel_rfl : _ = val (aload T8 3 (.pointer (some ⟨H.n, 0, none⟩)) H2_) H2_).trans (val_of ((aload_at gH2_H_n).trans (by kernel_rfl)))) ?_
  refine cf_go 67 ?_
  have gH2_W : H2_.get (W) = some ⟨(Wd.map (Value.int .u32)), 30, false⟩ := by rw [hH2_, Heap.get_put, if_neg (by omega)]; rw [hH1_, Heap.get_push, if_neg (by omega)]; exact gW
  refine cf_end (.int .i64 1) H2_ (by kernel_rfl) (by kernel_rfl) (by kernel_rfl) ?_
  exact ⟨rfl, by omega, gH2_M, gH2_W, fun b hb h1 h2 => by rw [hH2_, Heap.get_put, if_neg (by omega), hH1_, Heap.get_push, if_neg (by omega)]⟩
theorem step_alu {H : Heap} {M W n : Nat} {R Wd : List Int} {C k rd ra rb pl : Nat} {is : List Ins5} {op im xa xb : Int} (hk : is[k]? = some (op, (rd : Int), (ra : Int), (rb : Int), im)) (hkl : k < is.length) (hk2 : k < 4611686018427387904) (hrd : rd < 16) (hra : ra < 16) (hrb : rb < 16) (hi0 : 0 ≤ im) (hi1 : im < 4294967296) (ea : R[ra]? = some xa) (eb : R[rb]? = some xb) (ha0 : 0 ≤ xa) (ha1 : xa < 18446744073709551616) (hb0 : 0 ≤ xb) (hb1 : xb < 18446744073709551616) (hpl : IntKind.u64.wrap (xa + im) = ((pl : Nat) : Int)) (hpl2 : pl < 18446744073709551616) (hn : n ≤ 65536) (hWl : Wd.length = n) (gC : H.get C = some ⟨insC is, 48, false⟩) (hC : C < H.n) (hMC : M ≠ C) (hWC : W ≠ C) (gM : H.get M = some ⟨macC R W n (.slice (some ⟨C, 0, none⟩) is.length (unk + 5)) (k : Int), 62, false⟩) (gW : H.get W = some ⟨Wd.map (Value.int .u32), 30, false⟩) (hR : R.length = 16) (hMW : M ≠ W) (hM : M < H.n) (hW : W < H.n) (ho1 : 2 ≤ op) (ho2 : op ≤ 13) : ACall Try.prog T8 21 #[.pointer (some ⟨M, 0, none⟩)] H fun r H' => r = .int .i64 0 ∧ MTo H H' 62 M W n (.slice (some ⟨C, 0, none⟩) is.length (unk + 5)) (R.set rd (rck op.toNat xa xb)) Wd ((k + 1 : Nat) : Int) := by
  refine acall_cf 144 (initTm 0 #[.pointer (some ⟨M, 0, none⟩)]) rfl f21_fn f21_body rfl rfl ?_
  refine cf_go 11 ?_
  refine cf_val 11 (.int .i64 ((k : Nat) : Int)) H (by kernel_rfl) ((by kernel_rfl : _ = val (aload T8 3 (.pointer (some ⟨M, 18, none⟩)) H) H).trans (val_of ((aload_at gM).trans (aloadC_cellB (n := 1) (by kernel_rfl) (by kernel_rfl) (mc_18 hR))))) ?_
  refine cf_go 1 ?_
  refine cf_see 12 (.bool false) (see_bool (by kernel_rfl) ((decide_eq_false (by omega)) : ((decide (((k : Nat) : Int) < 0))) = false)) ?_
  refine cf_go 4 ?_
  refine cf_val 17 (.int .i64 ((k : Nat) : Int)) H (by kernel_rfl) ((by kernel_rfl : _ = val (aload T8 3 (.pointer (some ⟨M, 18, none⟩)) H) H).trans (val_of ((aload_at gM).trans (aloadC_cellB (n := 1) (by kernel_rfl) (by kernel_rfl) (mc_18 hR))))) ?_
  refine cf_go 3 ?_
  refine cf_val 21 (.slice (some ⟨C, 0, none⟩) is.length (unk + 5)) H (by kernel_rfl) ((by kernel_rfl : _ = val (aload T8 22 (.pointer (some ⟨M, 17, none⟩)) H) H).trans (val_of ((aload_at gM).trans (aloadC_cellB (n := 1) (by kernel_rfl) (by kernel_rfl) (mc_17 hR))))) ?_
  refine cf_go 2 ?_
  refine cf_see 23 (.bool false) (see_bool (by kernel_rfl) ((decide_eq_false (by omega)) : ((decide (((k : Nat) : Int) ≥ ((is.length : Nat) : Int)))) = false)) ?_
  refine cf_go 11 ?_
  refine cf_val 28 (.slice (some ⟨C, 0, none⟩) is.length (unk + 5)) H (by kernel_rfl) ((by kernel_rfl : _ = val (aload T8 22 (.pointer (some ⟨M, 17, none⟩)) H) H).trans (val_of ((aload_at gM).trans (aloadC_cellB (n := 1) (by kernel_rfl) (by kernel_rfl) (mc_17 hR))))) ?_
  refine cf_go 3 ?_
  refine cf_val 32 (.int .i64 ((k : Nat) : Int)) H (by kernel_rfl) ((by kernel_rfl : _ = val (aload T8 3 (.pointer (some ⟨M, 18, none⟩)) H) H).trans (val_of ((aload_at gM).trans (aloadC_cellB (n := 1) (by kernel_rfl) (by kernel_rfl) (mc_18 hR))))) ?_
  refine cf_val 33 (.pointer (some ⟨C, 0 + k * 5, none⟩)) H (by kernel_rfl) ((by kernel_rfl : _ = val (bif (k : Nat).blt is.length then some (.pointer (some ⟨C, 0 + k * 5, none⟩)) else none) H).trans (by rw [show (k : Nat).blt is.length = true from (by rw [blt_dec]; simp only [decide_eq_true_eq]; omega)]; rfl)) ?_
  refine cf_val 34 (.agg #[.int .i64 op, .int .i64 ((rd : Nat) : Int), .int .i64 ((ra : Nat) : Int), .int .i64 ((rb : Nat) : Int), .int .u32 im]) H (by kernel_rfl) ((by kernel_rfl : _ = val (aload T8 48 (.pointer (some ⟨C, 0 + k * 5, none⟩)) H) H).trans (val_of ((aload_at gC).trans (aloadC_rowB (n := 5) (l := [Value.int .i64 op, .int .i64 ((rd : Nat) : Int), .int .i64 ((ra : Nat) : Int), .int .i64 ((rb : Nat) : Int), .int .u32 im]) (by kernel_rfl) (by kernel_rfl) rfl (insC_at is k _ hk))))) ?_
  obtain ⟨H1_, hH1_⟩ : ∃ x : Heap, x = H.push ⟨[Value.int .i64 0, .int .i64 0, .int .i64 0, .int .i64 0, .int .u32 0], 48, false⟩ := ⟨_, rfl⟩
  have nH1_ : H1_.n = H.n + 1 := by rw [hH1_]; rfl
  refine cf_val 3 (.pointer (some ⟨H.n, 0, none⟩)) H1_ (by kernel_rfl) ((by kernel_rfl : _ = some (Res.val (.pointer (some ⟨H.n, 0, none⟩)), H.push ⟨[Value.int .i64 0, .int .i64 0, .int .i64 0, .int .i64 0, .int .u32 0], 48, false⟩)).trans (by rw [← hH1_])) ?_
  have gH1_H_n : H1_.get (H.n) = some ⟨[Value.int .i64 0, .int .i64 0, .int .i64 0, .int .i64 0, .int .u32 0], 48, false⟩ := by rw [hH1_]; exact (Heap.get_push _ _ _).trans (if_pos rfl)
  obtain ⟨H2_, hH2_⟩ : ∃ x : Heap, x = H1_.put (H.n) ⟨[Value.int .i64 op, .int .i64 ((rd : Nat) : Int), .int .i64 ((ra : Nat) : Int), .int .i64 ((rb : Nat) : Int), .int .u32 im], 48, false⟩ := ⟨_, rfl⟩
  have nH2_ : H2_.n = H1_.n := by rw [hH2_]; rfl
  refine cf_skip H2_ (by kernel_rfl) ((by kernel_rfl : _ = skp (astore T8 48 (.pointer (some ⟨H.n, 0, none⟩)) (.agg #[.int .i64 op, .int .i64 ((rd : Nat) : Int), .int .i64 ((ra : Nat) : Int), .int .i64 ((rb : Nat) : Int), .int .u32 im]) H1_)).trans (by rw [astore_to gH1_H_n (by kernel_rfl), ← hH2_]; rfl)) ?_
  refine cf_go 6 ?_
  have gH2_H_n : H2_.get (H.n) = some ⟨[Value.int .i64 op, .int .i64 ((rd : Nat) : Int), .int .i64 ((ra : Nat) : Int), .int .i64 ((rb : Nat) : Int), .int .u32 im], 48, false⟩ := by rw [hH2_]; exact (Heap.get_put _ _ _ _).trans (if_pos rfl)
  refine cf_val 37 (.int .i64 ((ra : Nat) : Int)) H2_ (by kernel_rfl) ((by kernel_rfl : _ = val (aload T8 3 (.pointer (some ⟨H.n, 2, none⟩)) H2_) H2_).trans (val_of ((aload_at gH2_H_n).trans (by kernel_rfl)))) ?_
  refine cf_go 2 ?_
  refine cf_val 40 (.pointer (some ⟨M, 0 + ra * 1, none⟩)) H2_ (by kernel_rfl) ((by kernel_rfl : _ = val (bif (ra : Nat).blt 16 then some (.pointer (some ⟨M, 0 + ra * 1, none⟩)) else none) H2_).trans (by rw [show (ra : Nat).blt 16 = true from (by rw [blt_dec]; simp only [decide_eq_true_eq]; omega)]; rfl)) ?_
  have gH2_M : H2_.get (M) = some ⟨(R.map (Value.int .u64) ++ [Value.slice (some ⟨W, 0, none⟩) n n, .slice (some ⟨C, 0, none⟩) is.length (unk + 5), .int .i64 ((k : Nat) : Int)]), 62, false⟩ := by rw [hH2_, Heap.get_put, if_neg (by omega)]; rw [hH1_, Heap.get_push, if_neg (by omega)]; exact gM
  refine cf_val 41 (.int .u64 xa) H2_ (by kernel_rfl) ((by kernel_rfl : _ = val (aload T8 42 (.pointer (some ⟨M, 0 + ra * 1, none⟩)) H2_) H2_).trans (val_of ((aload_at gH2_M).trans (aloadC_cellB (n := 1) (by kernel_rfl) (by kernel_rfl) (mc_r ea))))) ?_
  refine cf_go 2 ?_
  refine cf_val 44 (.int .i64 ((rb : Nat) : Int)) H2_ (by kernel_rfl) ((by kernel_rfl : _ = val (aload T8 3 (.pointer (some ⟨H.n, 3, none⟩)) H2_) H2_).trans (val_of ((aload_at gH2_H_n).trans (by kernel_rfl)))) ?_
  refine cf_go 2 ?_
  refine cf_val 47 (.pointer (some ⟨M, 0 + rb * 1, none⟩)) H2_ (by kernel_rfl) ((by kernel_rfl : _ = val (bif (rb : Nat).blt 16 then some (.pointer (some ⟨M, 0 + rb * 1, none⟩)) else none) H2_).trans (by rw [show (rb : Nat).blt 16 = true from (by rw [blt_dec]; simp only [decide_eq_true_eq]; omega)]; rfl)) ?_
  refine cf_val 48 (.int .u64 xb) H2_ (by kernel_rfl) ((by kernel_rfl : _ = val (aload T8 42 (.pointer (some ⟨M, 0 + rb * 1, none⟩)) H2_) H2_).trans (val_of ((aload_at gH2_M).trans (aloadC_cellB (n := 1) (by kernel_rfl) (by kernel_rfl) (mc_r eb))))) ?_
  refine cf_go 8 ?_
  refine cf_val 51 (.int .u32 im) H2_ (by kernel_rfl) ((by kernel_rfl : _ = val (aload T8 30 (.pointer (some ⟨H.n, 4, none⟩)) H2_) H2_).trans (val_of ((aload_at gH2_H_n).trans (by kernel_rfl)))) ?_
  refine cf_go 1 ?_
  refine cf_see 52 (.int .u64 im) (see_int (x := IntKind.u64.wrap im) (by kernel_rfl) (wu64 rfl (by omega) (by omega))) ?_
  refine cf_go 1 ?_
  refine cf_see 53 (.int .u64 ((pl : Nat) : Int)) (see_int (x := (IntKind.u64.wrap (xa + im))) (by kernel_rfl) hpl) ?_
  refine cf_go 8 ?_
  refine cf_val 57 (.int .i64 ((k : Nat) : Int)) H2_ (by kernel_rfl) ((by kernel_rfl : _ = val (aload T8 3 (.pointer (some ⟨M, 18, none⟩)) H2_) H2_).trans (val_of ((aload_at gH2_M).trans (aloadC_cellB (n := 1) (by kernel_rfl) (by kernel_rfl) (mc_18 hR))))) ?_
  refine cf_go 1 ?_
  refine cf_see 58 (.int .i64 ((k + 1 : Nat) : Int)) (see_int (x := (IntKind.i64.wrap (((k : Nat) : Int) + 1))) (by kernel_rfl) (w64 (by omega) (by omega) (by omega))) ?_
  refine cf_go 7 ?_
  refine cf_val 60 (.int .i64 op) H2_ (by kernel_rfl) ((by kernel_rfl : _ = val (aload T8 3 (.pointer (some ⟨H.n, 0, none⟩)) H2_) H2_).trans (val_of ((aload_at gH2_H_n).trans (by kernel_rfl)))) ?_
  refine cf_go 6 ?_
  refine cf_see 73 (.bool false) (see_bool (by kernel_rfl) ((beq_eq_false_iff_ne.2 (by omega)) : (((op : Int) == 0)) = false)) ?_
  refine cf_go 7 ?_
  refine cf_see 75 (.bool false) (see_bool (by kernel_rfl) ((beq_eq_false_iff_ne.2 (by omega)) : (((op : Int) == 1)) = false)) ?_
  refine cf_go 8 ?_
  refine cf_see 86 (.bool false) (see_bool (by kernel_rfl) ((beq_eq_false_iff_ne.2 (by omega)) : (((op : Int) == 14)) = false)) ?_
  refine cf_go 6 ?_
  refine cf_see 87 (.bool false) (see_bool (by kernel_rfl) ((beq_eq_false_iff_ne.2 (by omega)) : (((op : Int) == 15)) = false)) ?_
  refine cf_go 8 ?_
  refine cf_see 122 (.bool false) (see_bool (by kernel_rfl) ((beq_eq_false_iff_ne.2 (by omega)) : (((op : Int) == 16)) = false)) ?_
  refine cf_go 6 ?_
  refine cf_see 123 (.bool false) (see_bool (by kernel_rfl) ((beq_eq_false_iff_ne.2 (by omega)) : (((op : Int) == 17)) = false)) ?_
  refine cf_go 7 ?_
  refine cf_see 134 (.bool false) (see_bool (by kernel_rfl) ((beq_eq_false_iff_ne.2 (by omega)) : (((op : Int) == 18)) = false)) ?_
  refine cf_go 7 ?_
  refine cf_see 139 (.bool false) (see_bool (by kernel_rfl) ((beq_eq_false_iff_ne.2 (by omega)) : (((op : Int) == 19)) = false)) ?_
  refine cf_go 4 ?_
  refine cf_drawV (H2_.n) (by kernel_rfl) ?_
  refine aopsV_go 2 (by kernel_rfl) (by kernel_rfl) ?_
  refine aopsV_get 63 (.int .i64 ((rd : Nat) : Int)) (.pointer (some ⟨H.n, 1, none⟩)) (.tmp 62) H2_ (by kernel_rfl) (by kernel_rfl) (by kernel_rfl) (by kernel_rfl) ((by kernel_rfl : _ = aload T8 3 (.pointer (some ⟨H.n, 1, none⟩)) H2_).trans ((aload_at gH2_H_n).trans (by kernel_rfl))) (veq_int _ _) (lowB_ptr (by omega)) ((by kernel_rfl : _ = val (aload T8 3 (.pointer (some ⟨H.n, 1, none⟩)) H2_) H2_).trans (val_to ((aload_at gH2_H_n).trans (by kernel_rfl)) (by kernel_rfl))) ?_
  refine aopsV_go 1 (by kernel_rfl) (by kernel_rfl) ?_
  refine aopsV_val 65 (.int .i64 op) H2_ H2_ (by kernel_rfl) ((by kernel_rfl : _ = val (aload T8 3 (.pointer (some ⟨H.n, 0, none⟩)) H2_) H2_).trans (val_of ((aload_at gH2_H_n).trans (by kernel_rfl)))) (by kernel_rfl) (fun _ => Up.refl _) (by kernel_rfl) ?_
  refine aopsV_go 2 (by kernel_rfl) (by kernel_rfl) ?_
  refine aopsV_ask 68 (.int .u64 (rck op.toNat xa xb)) 31 #[.int .i64 op, .int .u64 xa, .int .u64 xb] (by kernel_rfl) (by kernel_rfl) (orc31 op xa xb (by simp only [aluB, u64B, Bool.and_eq_true, decide_eq_true_eq]; omega)) ?_
  refine aopsV_go 2 (by kernel_rfl) (by kernel_rfl) ?_
  refine aopsV_val 71 (.pointer (some ⟨M, 0 + rd * 1, none⟩)) H2_ H2_ (by kernel_rfl) ((by kernel_rfl : _ = val (bif (rd : Nat).blt 16 then some (.pointer (some ⟨M, 0 + rd * 1, none⟩)) else none) H2_).trans (by rw [show (rd : Nat).blt 16 = true from (by rw [blt_dec]; simp only [decide_eq_true_eq]; omega)]; rfl)) (by kernel_rfl) (calm_no (by kernel_rfl)) (by kernel_rfl) ?_
  obtain ⟨H3_, hH3_⟩ : ∃ x : Heap, x = H2_.put (M) ⟨((R.set rd (rck op.toNat xa xb)).map (Value.int .u64) ++ [Value.slice (some ⟨W, 0, none⟩) n n, .slice (some ⟨C, 0, none⟩) is.length (unk + 5), .int .i64 ((k : Nat) : Int)]), 62, false⟩ := ⟨_, rfl⟩
  have nH3_ : H3_.n = H2_.n := by rw [hH3_]; rfl
  refine aopsV_skip H2_ H3_ (by kernel_rfl) (by kernel_rfl) (by kernel_rfl) ((by kernel_rfl : _ = skp (astore T8 42 (.pointer (some ⟨M, 0 + rd * 1, none⟩)) (.int .u64 (rck op.toNat xa xb)) H2_)).trans (by rw [astore_to gH2_M ((astoreC_one (by kernel_rfl) rfl rfl (by rw [ml hR]; omega)).trans (congrArg some (ms_r hR (by omega)))), ← hH3_]; rfl)) (by kernel_rfl) (calm_no (by kernel_rfl)) ?_
  refine aopsV_end (by kernel_rfl) ?_
  refine cf_go 8 ?_
  have gH3_M : H3_.get (M) = some ⟨((R.set rd (rck op.toNat xa xb)).map (Value.int .u64) ++ [Value.slice (some ⟨W, 0, none⟩) n n, .slice (some ⟨C, 0, none⟩) is.length (unk + 5), .int .i64 ((k : Nat) : Int)]), 62, false⟩ := by rw [hH3_]; exact (Heap.get_put _ _ _ _).trans (if_pos rfl)
  obtain ⟨H4_, hH4_⟩ : ∃ x : Heap, x = H3_.put (M) ⟨((R.set rd (rck op.toNat xa xb)).map (Value.int .u64) ++ [Value.slice (some ⟨W, 0, none⟩) n n, .slice (some ⟨C, 0, none⟩) is.length (unk + 5), .int .i64 ((k + 1 : Nat) : Int)]), 62, false⟩ := ⟨_, rfl⟩
  have nH4_ : H4_.n = H3_.n := by rw [hH4_]; rfl
  refine cf_skip H4_ (by kernel_rfl) ((by kernel_rfl : _ = skp (astore T8 3 (.pointer (some ⟨M, 18, none⟩)) (.int .i64 ((k + 1 : Nat) : Int)) H3_)).trans (by rw [astore_to gH3_M ((astoreC_one (by kernel_rfl) rfl rfl (by rw [ml ((List.length_set ..).trans hR)]; omega)).trans (congrArg some (ms_18 ((List.length_set ..).trans hR)))), ← hH4_]; rfl)) ?_
  refine cf_go 8 ?_
  have gH4_M : H4_.get (M) = some ⟨((R.set rd (rck op.toNat xa xb)).map (Value.int .u64) ++ [Value.slice (some ⟨W, 0, none⟩) n n, .slice (some ⟨C, 0, none⟩) is.length (unk + 5), .int .i64 ((k + 1 : Nat) : Int)]), 62, false⟩ := by rw [hH4_]; exact (Heap.get_put _ _ _ _).trans (if_pos rfl)
  have gH4_W : H4_.get (W) = some ⟨(Wd.map (Value.int .u32)), 30, false⟩ := by rw [hH4_, Heap.get_put, if_neg (by omega)]; rw [hH3_, Heap.get_put, if_neg (by omega)]; rw [hH2_, Heap.get_put, if_neg (by omega)]; rw [hH1_, Heap.get_push, if_neg (by omega)]; exact gW
  refine cf_end (.int .i64 0) H4_ (by kernel_rfl) (by kernel_rfl) (by kernel_rfl) ?_
  exact ⟨rfl, by omega, gH4_M, gH4_W, fun b hb h1 h2 => by rw [hH4_, Heap.get_put, if_neg (by omega), hH3_, Heap.get_put, if_neg (by omega), hH2_, Heap.get_put, if_neg (by omega), hH1_, Heap.get_push, if_neg (by omega)]⟩
end Hm
end Go.Proofs.Ytjhijpfbokklcaa
