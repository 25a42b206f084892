/- The machine's step. -/
import Derived.Test.YtjhijpfbokklcaaHc
namespace Go.Proofs.Ytjhijpfbokklcaa
open Go Go.Ev Go.RowKit
set_option linter.unusedVariables false
set_option linter.unusedSimpArgs false
set_option maxRecDepth 100000
namespace Hs
theorem aw_draw0w {P : Program} {T : Tab} {n : Nat} {ops : Array Oper} {Q : Xt → St → Prop} {s : St} {id : Nat} (hl : loose T ops = []) (h : AOps P T n ops ops.toList (Q .normal) s) : Aw P T n (.region id ops true) Q s := by
  obtain ⟨l⟩ := ops
  exact aw_draw0 hl h
theorem und48 : ∃ fs, T4.under 48 = some (.struct fs) := ⟨_, Try.underlying48⟩
theorem ext_of {H H1 K : Heap} (he : Ext H H1) (h : K = H1) : Ext H K := by rw [h]; exact he
theorem get_of {H2 K : Heap} {M : Nat} {ob : Ob} (h : K = H2.put M ob) : K.get M = some ob := by rw [h, Heap.get_put, if_pos rfl]
theorem load48 {H : Heap} {b : Nat} {x y z u v : Value} (hob : H.get b = some ⟨[x, y, z, u, v], 48, false⟩) : aload T4 48 (.pointer (some ⟨b, 0, none⟩)) H = some (.agg #[x, y, z, u, v]) := by
  obtain ⟨fs, hu⟩ := und48
  unfold aload
  simp only [hob, hu, size48, isRow, cond_true]
  rfl
theorem store48 {H : Heap} {op E : Int} : astore T4 48 (.pointer (some ⟨H.n, 0, none⟩)) (.agg #[.int .i64 op, .int .i64 0, .int .i64 0, .int .i64 0, .int .u32 E]) (H.push ⟨[.int .i64 0, .int .i64 0, .int .i64 0, .int .i64 0, .int .u32 0], 48, false⟩) =
    some ((H.push ⟨[.int .i64 0, .int .i64 0, .int .i64 0, .int .i64 0, .int .u32 0], 48, false⟩).put H.n ⟨[.int .i64 op, .int .i64 0, .int .i64 0, .int .i64 0, .int .u32 E], 48, false⟩) := by
  have hg : (H.push ⟨[.int .i64 0, .int .i64 0, .int .i64 0, .int .i64 0, .int .u32 0], 48, false⟩).get H.n = some ⟨[.int .i64 0, .int .i64 0, .int .i64 0, .int .i64 0, .int .u32 0], 48, false⟩ := by rw [Heap.get_push, if_pos rfl]
  unfold astore
  simp only [size48, Value.cells]
  show (bif true then aput H.n 0 _ _ else none) = _
  unfold aput
  simp only [cond_true, hg]
  rfl
theorem oth_of {H2 K : Heap} {M b : Nat} {ob : Ob} {r : Option Ob} (h : K = H2.put M ob) (hm : b ≠ M) (hr : H2.get b = r) : K.get b = r := by rw [h, Heap.get_put, if_neg hm]; exact hr
theorem reg_ev2 {H : Heap} {M : Nat} {cells : List Value} {r0 : Int} (hm : H.get M = some ⟨cells, 62, false⟩) (h0 : cells[0]? = some (.int .u64 r0)) : ACall Try.prog T4 18 #[Pm M, .int .i64 0] H fun r H' => r = .int .u64 r0 ∧ H' = H := by
  refine acall_of' 17 (initTm 0 #[Pm M, .int .i64 0]) rfl fn18 f18_body rfl rfl ?_
  rw [f18b_eq]
  refine aw_then ?_
  rw [f18r0_eq]
  refine aw_reg ?_
  refine aops_go 1 9 (by kernel_rfl) (aops_end (by kernel_rfl) (then_normal ?_))
  rw [f18n1_eq]
  refine aw_then ?_
  rw [f18n2_eq]
  refine aw_then ?_
  rw [f18r1_eq]
  refine aw_reg ?_
  refine aops_go 6 9 (by kernel_rfl) (aops_end (by kernel_rfl) (then_normal ?_))
  rw [f18n3_eq]
  refine aw_cond (t := false) (by kernel_rfl) (aw_skip (then_normal ?_))
  rw [f18n5_eq]
  refine aw_then ?_
  rw [f18r3_eq]
  refine aw_reg ?_
  refine aops_go 5 9 (by kernel_rfl) ?_
  refine aops_val 16 (.int .u64 r0) H (by kernel_rfl) (by kernel_rfl) (by kernel_rfl) ((by kernel_rfl : _ = val (aload T4 42 (.pointer (some ⟨M, 0, none⟩)) H) H).trans (val_of (load42 hm h0))) ?_
  refine aops_go 1 9 (by kernel_rfl) (aops_end (by kernel_rfl) (then_normal ?_))
  exact aw_ret (bodyQ_ret ⟨.int .u64 r0, by kernel_rfl, rfl, by kernel_rfl⟩)
theorem at_ev2 {H : Heap} {M : Nat} {cells : List Value} {x : Int} (hm : H.get M = some ⟨cells, 62, false⟩) (h18 : cells[18]? = some (.int .i64 x)) : ACall Try.prog T4 13 #[Pm M] H fun r H' => r = .int .i64 x ∧ H' = H := by
  refine acall_of' 7 (initTm 0 #[Pm M]) rfl fn13 f13_body rfl rfl ?_
  rw [f13b_eq]
  refine aw_then ?_
  rw [f13r0_eq]
  refine aw_reg ?_
  refine aops_go 1 9 (by kernel_rfl) (aops_end (by kernel_rfl) (then_normal ?_))
  rw [f13n1_eq]
  refine aw_then ?_
  rw [f13r1_eq]
  refine aw_reg ?_
  refine aops_go 3 9 (by kernel_rfl) ?_
  refine aops_val 6 (.int .i64 x) H (by kernel_rfl) (by kernel_rfl) (by kernel_rfl) ((by kernel_rfl : _ = val (aload T4 3 (.pointer (some ⟨M, 18, none⟩)) H) H).trans (val_of (load3 hm h18))) ?_
  refine aops_go 1 9 (by kernel_rfl) (aops_end (by kernel_rfl) (then_normal ?_))
  exact aw_ret (bodyQ_ret ⟨.int .i64 x, by kernel_rfl, rfl, by kernel_rfl⟩)
section
variable {H : Heap} {M W C : Nat} {Rl ws : List Value} {E r0 : Int}
theorem step_exit (h : MH H M W C Rl ws 19 E 0) (h0 : Rl[0]? = some (.int .u64 r0)) : ACall Try.prog T4 21 #[Pm M] H fun r H' => r = .int .i64 1 ∧ Ext H H' := by
  obtain ⟨H1, hH1⟩ : ∃ H1 : Heap, H1 = (H.push ⟨[.int .i64 0, .int .i64 0, .int .i64 0, .int .i64 0, .int .u32 0], 48, false⟩).put H.n ⟨[.int .i64 19, .int .i64 0, .int .i64 0, .int .i64 0, .int .u32 E], 48, false⟩ := ⟨_, rfl⟩
  have hE1 : Ext H H1 := by rw [hH1]; exact ((Ext.refl H).push _).put (Nat.le_refl _) _
  have h1 := h.ext hE1
  have hN : H1.get H.n = some ⟨[.int .i64 19, .int .i64 0, .int .i64 0, .int .i64 0, .int .u32 E], 48, false⟩ := by rw [hH1, Heap.get_put, if_pos rfl]
  refine acall_of' 144 (initTm 0 #[Pm M]) rfl fn21 f21_body rfl rfl ?_
  rw [f21b_eq]
  refine aw_then ?_
  rw [f21r0_eq]
  refine aw_reg ?_
  refine aops_go 1 9 (by kernel_rfl) ?_
  refine aops_end (by kernel_rfl) (then_normal ?_)
  rw [f21n1_eq]
  refine aw_then ?_
  rw [f21n2_eq]
  refine aw_then ?_
  rw [f21r1_eq]
  refine aw_draw0w (by kernel_rfl) ?_
  refine aops_go 3 9 (by kernel_rfl) ?_
  refine aops_val 11 (.int .i64 0) H (by kernel_rfl) (by kernel_rfl) (by kernel_rfl) ((by kernel_rfl : _ = val (aload T4 3 (.pointer (some ⟨M, 18, none⟩)) H) H).trans (val_of (load3 h.m h.i18))) ?_
  refine aops_go 5 9 (by kernel_rfl) ?_
  refine aops_val 17 (.int .i64 0) H (by kernel_rfl) (by kernel_rfl) (by kernel_rfl) ((by kernel_rfl : _ = val (aload T4 3 (.pointer (some ⟨M, 18, none⟩)) H) H).trans (val_of (load3 h.m h.i18))) ?_
  refine aops_go 3 9 (by kernel_rfl) ?_
  refine aops_val 21 (.slice (some ⟨C, 0, none⟩) 1 (unk + 5)) H (by kernel_rfl) (by kernel_rfl) (by kernel_rfl) ((by kernel_rfl : _ = val (aload T4 22 (.pointer (some ⟨M, 17, none⟩)) H) H).trans (val_of (load22 h.m h.i17))) ?_
  refine aops_go 3 9 (by kernel_rfl) ?_
  refine aops_end (by kernel_rfl) (then_normal ?_)
  rw [f21n3_eq]
  refine aw_cond (t := false) (by kernel_rfl) ?_
  refine aw_skip (then_normal ?_)
  rw [f21n5_eq]
  refine aw_then ?_
  rw [f21r3_eq]
  refine aw_draw0w (by kernel_rfl) ?_
  refine aops_go 3 9 (by kernel_rfl) ?_
  refine aops_val 28 (.slice (some ⟨C, 0, none⟩) 1 (unk + 5)) H (by kernel_rfl) (by kernel_rfl) (by kernel_rfl) ((by kernel_rfl : _ = val (aload T4 22 (.pointer (some ⟨M, 17, none⟩)) H) H).trans (val_of (load22 h.m h.i17))) ?_
  refine aops_go 3 9 (by kernel_rfl) ?_
  refine aops_val 32 (.int .i64 0) H (by kernel_rfl) (by kernel_rfl) (by kernel_rfl) ((by kernel_rfl : _ = val (aload T4 3 (.pointer (some ⟨M, 18, none⟩)) H) H).trans (val_of (load3 h.m h.i18))) ?_
  refine aops_go 1 9 (by kernel_rfl) ?_
  refine aops_val 34 (.agg #[.int .i64 19, .int .i64 0, .int .i64 0, .int .i64 0, .int .u32 E]) H (by kernel_rfl) (by kernel_rfl) (by kernel_rfl) ((by kernel_rfl : _ = val (aload T4 48 (.pointer (some ⟨C, 0, none⟩)) H) H).trans (val_of (load48 h.c))) ?_
  refine aops_go 1 9 (by kernel_rfl) ?_
  refine aops_skip H1 (by kernel_rfl) (by kernel_rfl) (by kernel_rfl) ((by kernel_rfl : _ = skp (astore T4 48 (.pointer (some ⟨H.n, 0, none⟩)) (.agg #[.int .i64 19, .int .i64 0, .int .i64 0, .int .i64 0, .int .u32 E]) (H.push ⟨[.int .i64 0, .int .i64 0, .int .i64 0, .int .i64 0, .int .u32 0], 48, false⟩))).trans (by rw [store48, ← hH1]; rfl)) ?_
  refine aops_end (by kernel_rfl) (then_normal ?_)
  rw [f21n6_eq]
  refine aw_then ?_
  rw [f21r4_eq]
  refine aw_draw0w (by kernel_rfl) ?_
  refine aops_go 2 9 (by kernel_rfl) ?_
  refine aops_val 37 (.int .i64 0) H1 (by kernel_rfl) (by kernel_rfl) (by kernel_rfl) ((by kernel_rfl : _ = val (aload T4 3 (.pointer (some ⟨H.n, 2, none⟩)) H1) H1).trans (val_of (load3 hN rfl))) ?_
  refine aops_go 3 9 (by kernel_rfl) ?_
  refine aops_val 41 (.int .u64 r0) H1 (by kernel_rfl) (by kernel_rfl) (by kernel_rfl) ((by kernel_rfl : _ = val (aload T4 42 (.pointer (some ⟨M, 0, none⟩)) H1) H1).trans (val_of (load42 h1.m (h1.ireg h0)))) ?_
  refine aops_go 2 9 (by kernel_rfl) ?_
  refine aops_val 44 (.int .i64 0) H1 (by kernel_rfl) (by kernel_rfl) (by kernel_rfl) ((by kernel_rfl : _ = val (aload T4 3 (.pointer (some ⟨H.n, 3, none⟩)) H1) H1).trans (val_of (load3 hN rfl))) ?_
  refine aops_go 3 9 (by kernel_rfl) ?_
  refine aops_val 48 (.int .u64 r0) H1 (by kernel_rfl) (by kernel_rfl) (by kernel_rfl) ((by kernel_rfl : _ = val (aload T4 42 (.pointer (some ⟨M, 0, none⟩)) H1) H1).trans (val_of (load42 h1.m (h1.ireg h0)))) ?_
  refine aops_go 2 9 (by kernel_rfl) ?_
  refine aops_end (by kernel_rfl) (then_normal ?_)
  rw [f21n7_eq]
  refine aw_then ?_
  rw [f21r5_eq]
  refine aw_reg ?_
  refine aops_go 2 9 (by kernel_rfl) ?_
  refine aops_val 51 (.int .u32 E) H1 (by kernel_rfl) (by kernel_rfl) (by kernel_rfl) ((by kernel_rfl : _ = val (aload T4 30 (.pointer (some ⟨H.n, 4, none⟩)) H1) H1).trans (val_of (load30 hN rfl))) ?_
  refine aops_go 3 9 (by kernel_rfl) ?_
  refine aops_end (by kernel_rfl) (then_normal ?_)
  rw [f21n8_eq]
  refine aw_then ?_
  rw [f21r6_eq]
  refine aw_reg ?_
  refine aops_go 3 9 (by kernel_rfl) ?_
  refine aops_val 57 (.int .i64 0) H1 (by kernel_rfl) (by kernel_rfl) (by kernel_rfl) ((by kernel_rfl : _ = val (aload T4 3 (.pointer (some ⟨M, 18, none⟩)) H1) H1).trans (val_of (load3 h1.m h1.i18))) ?_
  refine aops_go 2 9 (by kernel_rfl) ?_
  refine aops_end (by kernel_rfl) (then_normal ?_)
  rw [f21n9_eq]
  refine aw_then ?_
  rw [f21n10_eq]
  refine aw_then ?_
  rw [f21r7_eq]
  refine aw_reg ?_
  refine aops_go 1 9 (by kernel_rfl) ?_
  refine aops_val 60 (.int .i64 19) H1 (by kernel_rfl) (by kernel_rfl) (by kernel_rfl) ((by kernel_rfl : _ = val (aload T4 3 (.pointer (some ⟨H.n, 0, none⟩)) H1) H1).trans (val_of (load3 hN rfl))) ?_
  refine aops_end (by kernel_rfl) (then_normal ?_)
  rw [f21n11_eq]
  refine aw_block ?_
  rw [f21n12_eq]
  refine aw_then ?_
  rw [f21r9_eq]
  refine aw_reg ?_
  refine aops_go 2 9 (by kernel_rfl) ?_
  refine aops_end (by kernel_rfl) (then_normal ?_)
  rw [f21n13_eq]
  refine aw_cond (t := false) (by kernel_rfl) ?_
  rw [f21n14_eq]
  refine aw_then ?_
  rw [f21r10_eq]
  refine aw_reg ?_
  refine aops_go 2 9 (by kernel_rfl) ?_
  refine aops_end (by kernel_rfl) (then_normal ?_)
  rw [f21n15_eq]
  refine aw_cond (t := false) (by kernel_rfl) ?_
  rw [f21n16_eq]
  refine aw_then ?_
  rw [f21n17_eq]
  refine aw_then ?_
  rw [f21r12_eq]
  refine aw_reg ?_
  refine aops_go 2 9 (by kernel_rfl) ?_
  refine aops_end (by kernel_rfl) (then_normal ?_)
  rw [f21n18_eq]
  refine aw_cond (t := false) (by kernel_rfl) ?_
  rw [f21r13_eq]
  refine aw_reg ?_
  refine aops_go 2 9 (by kernel_rfl) ?_
  refine aops_end (by kernel_rfl) (then_normal ?_)
  rw [f21n19_eq]
  refine aw_cond (t := false) (by kernel_rfl) ?_
  rw [f21n26_eq]
  refine aw_then ?_
  rw [f21n27_eq]
  refine aw_then ?_
  rw [f21r19_eq]
  refine aw_reg ?_
  refine aops_go 2 9 (by kernel_rfl) ?_
  refine aops_end (by kernel_rfl) (then_normal ?_)
  rw [f21n28_eq]
  refine aw_cond (t := false) (by kernel_rfl) ?_
  rw [f21r20_eq]
  refine aw_reg ?_
  refine aops_go 2 9 (by kernel_rfl) ?_
  refine aops_end (by kernel_rfl) (then_normal ?_)
  rw [f21n29_eq]
  refine aw_cond (t := false) (by kernel_rfl) ?_
  rw [f21n32_eq]
  refine aw_then ?_
  rw [f21r23_eq]
  refine aw_reg ?_
  refine aops_go 2 9 (by kernel_rfl) ?_
  refine aops_end (by kernel_rfl) (then_normal ?_)
  rw [f21n33_eq]
  refine aw_cond (t := false) (by kernel_rfl) ?_
  rw [f21n34_eq]
  refine aw_then ?_
  rw [f21r25_eq]
  refine aw_reg ?_
  refine aops_go 2 9 (by kernel_rfl) ?_
  refine aops_end (by kernel_rfl) (then_normal ?_)
  rw [f21n35_eq]
  refine aw_cond (t := true) (by kernel_rfl) ?_
  rw [f21n36_eq]
  refine aw_then ?_
  rw [f21r26_eq]
  refine aw_reg ?_
  refine aops_go 1 9 (by kernel_rfl) ?_
  refine aops_end (by kernel_rfl) (then_normal ?_)
  exact aw_ret (blk_ret (then_ret (bodyQ_ret ⟨.int .i64 1, by kernel_rfl, rfl, ext_of hE1 (by kernel_rfl)⟩)))
theorem step_bad14 (h : MH H M W C Rl ws 14 E 0) (h0 : Rl[0]? = some (.int .u64 r0)) (hp : decide ((IntKind.u64.wrap (r0 + IntKind.u64.wrap E)) ≥ 4) = true) : ACall Try.prog T4 21 #[Pm M] H fun r H' => r = .int .i64 4 ∧ Ext H H' := by
  obtain ⟨H1, hH1⟩ : ∃ H1 : Heap, H1 = (H.push ⟨[.int .i64 0, .int .i64 0, .int .i64 0, .int .i64 0, .int .u32 0], 48, false⟩).put H.n ⟨[.int .i64 14, .int .i64 0, .int .i64 0, .int .i64 0, .int .u32 E], 48, false⟩ := ⟨_, rfl⟩
  have hE1 : Ext H H1 := by rw [hH1]; exact ((Ext.refl H).push _).put (Nat.le_refl _) _
  have h1 := h.ext hE1
  have hN : H1.get H.n = some ⟨[.int .i64 14, .int .i64 0, .int .i64 0, .int .i64 0, .int .u32 E], 48, false⟩ := by rw [hH1, Heap.get_put, if_pos rfl]
  refine acall_of' 144 (initTm 0 #[Pm M]) rfl fn21 f21_body rfl rfl ?_
  rw [f21b_eq]
  refine aw_then ?_
  rw [f21r0_eq]
  refine aw_reg ?_
  refine aops_go 1 9 (by kernel_rfl) ?_
  refine aops_end (by kernel_rfl) (then_normal ?_)
  rw [f21n1_eq]
  refine aw_then ?_
  rw [f21n2_eq]
  refine aw_then ?_
  rw [f21r1_eq]
  refine aw_draw0w (by kernel_rfl) ?_
  refine aops_go 3 9 (by kernel_rfl) ?_
  refine aops_val 11 (.int .i64 0) H (by kernel_rfl) (by kernel_rfl) (by kernel_rfl) ((by kernel_rfl : _ = val (aload T4 3 (.pointer (some ⟨M, 18, none⟩)) H) H).trans (val_of (load3 h.m h.i18))) ?_
  refine aops_go 5 9 (by kernel_rfl) ?_
  refine aops_val 17 (.int .i64 0) H (by kernel_rfl) (by kernel_rfl) (by kernel_rfl) ((by kernel_rfl : _ = val (aload T4 3 (.pointer (some ⟨M, 18, none⟩)) H) H).trans (val_of (load3 h.m h.i18))) ?_
  refine aops_go 3 9 (by kernel_rfl) ?_
  refine aops_val 21 (.slice (some ⟨C, 0, none⟩) 1 (unk + 5)) H (by kernel_rfl) (by kernel_rfl) (by kernel_rfl) ((by kernel_rfl : _ = val (aload T4 22 (.pointer (some ⟨M, 17, none⟩)) H) H).trans (val_of (load22 h.m h.i17))) ?_
  refine aops_go 3 9 (by kernel_rfl) ?_
  refine aops_end (by kernel_rfl) (then_normal ?_)
  rw [f21n3_eq]
  refine aw_cond (t := false) (by kernel_rfl) ?_
  refine aw_skip (then_normal ?_)
  rw [f21n5_eq]
  refine aw_then ?_
  rw [f21r3_eq]
  refine aw_draw0w (by kernel_rfl) ?_
  refine aops_go 3 9 (by kernel_rfl) ?_
  refine aops_val 28 (.slice (some ⟨C, 0, none⟩) 1 (unk + 5)) H (by kernel_rfl) (by kernel_rfl) (by kernel_rfl) ((by kernel_rfl : _ = val (aload T4 22 (.pointer (some ⟨M, 17, none⟩)) H) H).trans (val_of (load22 h.m h.i17))) ?_
  refine aops_go 3 9 (by kernel_rfl) ?_
  refine aops_val 32 (.int .i64 0) H (by kernel_rfl) (by kernel_rfl) (by kernel_rfl) ((by kernel_rfl : _ = val (aload T4 3 (.pointer (some ⟨M, 18, none⟩)) H) H).trans (val_of (load3 h.m h.i18))) ?_
  refine aops_go 1 9 (by kernel_rfl) ?_
  refine aops_val 34 (.agg #[.int .i64 14, .int .i64 0, .int .i64 0, .int .i64 0, .int .u32 E]) H (by kernel_rfl) (by kernel_rfl) (by kernel_rfl) ((by kernel_rfl : _ = val (aload T4 48 (.pointer (some ⟨C, 0, none⟩)) H) H).trans (val_of (load48 h.c))) ?_
  refine aops_go 1 9 (by kernel_rfl) ?_
  refine aops_skip H1 (by kernel_rfl) (by kernel_rfl) (by kernel_rfl) ((by kernel_rfl : _ = skp (astore T4 48 (.pointer (some ⟨H.n, 0, none⟩)) (.agg #[.int .i64 14, .int .i64 0, .int .i64 0, .int .i64 0, .int .u32 E]) (H.push ⟨[.int .i64 0, .int .i64 0, .int .i64 0, .int .i64 0, .int .u32 0], 48, false⟩))).trans (by rw [store48, ← hH1]; rfl)) ?_
  refine aops_end (by kernel_rfl) (then_normal ?_)
  rw [f21n6_eq]
  refine aw_then ?_
  rw [f21r4_eq]
  refine aw_draw0w (by kernel_rfl) ?_
  refine aops_go 2 9 (by kernel_rfl) ?_
  refine aops_val 37 (.int .i64 0) H1 (by kernel_rfl) (by kernel_rfl) (by kernel_rfl) ((by kernel_rfl : _ = val (aload T4 3 (.pointer (some ⟨H.n, 2, none⟩)) H1) H1).trans (val_of (load3 hN rfl))) ?_
  refine aops_go 3 9 (by kernel_rfl) ?_
  refine aops_val 41 (.int .u64 r0) H1 (by kernel_rfl) (by kernel_rfl) (by kernel_rfl) ((by kernel_rfl : _ = val (aload T4 42 (.pointer (some ⟨M, 0, none⟩)) H1) H1).trans (val_of (load42 h1.m (h1.ireg h0)))) ?_
  refine aops_go 2 9 (by kernel_rfl) ?_
  refine aops_val 44 (.int .i64 0) H1 (by kernel_rfl) (by kernel_rfl) (by kernel_rfl) ((by kernel_rfl : _ = val (aload T4 3 (.pointer (some ⟨H.n, 3, none⟩)) H1) H1).trans (val_of (load3 hN rfl))) ?_
  refine aops_go 3 9 (by kernel_rfl) ?_
  refine aops_val 48 (.int .u64 r0) H1 (by kernel_rfl) (by kernel_rfl) (by kernel_rfl) ((by kernel_rfl : _ = val (aload T4 42 (.pointer (some ⟨M, 0, none⟩)) H1) H1).trans (val_of (load42 h1.m (h1.ireg h0)))) ?_
  refine aops_go 2 9 (by kernel_rfl) ?_
  refine aops_end (by kernel_rfl) (then_normal ?_)
  rw [f21n7_eq]
  refine aw_then ?_
  rw [f21r5_eq]
  refine aw_reg ?_
  refine aops_go 2 9 (by kernel_rfl) ?_
  refine aops_val 51 (.int .u32 E) H1 (by kernel_rfl) (by kernel_rfl) (by kernel_rfl) ((by kernel_rfl : _ = val (aload T4 30 (.pointer (some ⟨H.n, 4, none⟩)) H1) H1).trans (val_of (load30 hN rfl))) ?_
  refine aops_go 3 9 (by kernel_rfl) ?_
  refine aops_end (by kernel_rfl) (then_normal ?_)
  rw [f21n8_eq]
  refine aw_then ?_
  rw [f21r6_eq]
  refine aw_reg ?_
  refine aops_go 3 9 (by kernel_rfl) ?_
  refine aops_val 57 (.int .i64 0) H1 (by kernel_rfl) (by kernel_rfl) (by kernel_rfl) ((by kernel_rfl : _ = val (aload T4 3 (.pointer (some ⟨M, 18, none⟩)) H1) H1).trans (val_of (load3 h1.m h1.i18))) ?_
  refine aops_go 2 9 (by kernel_rfl) ?_
  refine aops_end (by kernel_rfl) (then_normal ?_)
  rw [f21n9_eq]
  refine aw_then ?_
  rw [f21n10_eq]
  refine aw_then ?_
  rw [f21r7_eq]
  refine aw_reg ?_
  refine aops_go 1 9 (by kernel_rfl) ?_
  refine aops_val 60 (.int .i64 14) H1 (by kernel_rfl) (by kernel_rfl) (by kernel_rfl) ((by kernel_rfl : _ = val (aload T4 3 (.pointer (some ⟨H.n, 0, none⟩)) H1) H1).trans (val_of (load3 hN rfl))) ?_
  refine aops_end (by kernel_rfl) (then_normal ?_)
  rw [f21n11_eq]
  refine aw_block ?_
  rw [f21n12_eq]
  refine aw_then ?_
  rw [f21r9_eq]
  refine aw_reg ?_
  refine aops_go 2 9 (by kernel_rfl) ?_
  refine aops_end (by kernel_rfl) (then_normal ?_)
  rw [f21n13_eq]
  refine aw_cond (t := false) (by kernel_rfl) ?_
  rw [f21n14_eq]
  refine aw_then ?_
  rw [f21r10_eq]
  refine aw_reg ?_
  refine aops_go 2 9 (by kernel_rfl) ?_
  refine aops_end (by kernel_rfl) (then_normal ?_)
  rw [f21n15_eq]
  refine aw_cond (t := false) (by kernel_rfl) ?_
  rw [f21n16_eq]
  refine aw_then ?_
  rw [f21n17_eq]
  refine aw_then ?_
  rw [f21r12_eq]
  refine aw_reg ?_
  refine aops_go 2 9 (by kernel_rfl) ?_
  refine aops_end (by kernel_rfl) (then_normal ?_)
  rw [f21n18_eq]
  refine aw_cond (t := true) (by kernel_rfl) ?_
  refine aw_skip (then_normal ?_)
  rw [f21n19_eq]
  refine aw_cond (t := true) (by kernel_rfl) ?_
  rw [f21n20_eq]
  refine aw_then ?_
  rw [f21n21_eq]
  refine aw_then ?_
  rw [f21r14_eq]
  refine aw_reg ?_
  refine aops_go 4 9 (by kernel_rfl) ?_
  refine aops_val 92 (.slice (some ⟨W, 0, none⟩) 4 4) H1 (by kernel_rfl) (by kernel_rfl) (by kernel_rfl) ((by kernel_rfl : _ = val (aload T4 56 (.pointer (some ⟨M, 16, none⟩)) H1) H1).trans (val_of (load56 h1.m h1.i16))) ?_
  refine aops_go 3 9 (by kernel_rfl) ?_
  refine aops_see 95 (.bool true) ((by kernel_rfl : _ = some (.bool (decide ((IntKind.u64.wrap (r0 + IntKind.u64.wrap E)) ≥ 4)))).trans (by rw [hp])) ?_
  refine aops_end (by kernel_rfl) (then_normal ?_)
  rw [f21n22_eq]
  refine aw_cond (t := true) (by kernel_rfl) ?_
  rw [f21n23_eq]
  refine aw_then ?_
  rw [f21r15_eq]
  refine aw_reg ?_
  refine aops_go 1 9 (by kernel_rfl) ?_
  refine aops_end (by kernel_rfl) (then_normal ?_)
  exact aw_ret (then_ret (blk_ret (then_ret (bodyQ_ret ⟨.int .i64 4, by kernel_rfl, rfl, ext_of hE1 (by kernel_rfl)⟩))))
theorem step_bad15 (h : MH H M W C Rl ws 15 E 0) (h0 : Rl[0]? = some (.int .u64 r0)) (hp : decide ((IntKind.u64.wrap (r0 + IntKind.u64.wrap E)) ≥ 4) = true) : ACall Try.prog T4 21 #[Pm M] H fun r H' => r = .int .i64 4 ∧ Ext H H' := by
  obtain ⟨H1, hH1⟩ : ∃ H1 : Heap, H1 = (H.push ⟨[.int .i64 0, .int .i64 0, .int .i64 0, .int .i64 0, .int .u32 0], 48, false⟩).put H.n ⟨[.int .i64 15, .int .i64 0, .int .i64 0, .int .i64 0, .int .u32 E], 48, false⟩ := ⟨_, rfl⟩
  have hE1 : Ext H H1 := by rw [hH1]; exact ((Ext.refl H).push _).put (Nat.le_refl _) _
  have h1 := h.ext hE1
  have hN : H1.get H.n = some ⟨[.int .i64 15, .int .i64 0, .int .i64 0, .int .i64 0, .int .u32 E], 48, false⟩ := by rw [hH1, Heap.get_put, if_pos rfl]
  refine acall_of' 144 (initTm 0 #[Pm M]) rfl fn21 f21_body rfl rfl ?_
  rw [f21b_eq]
  refine aw_then ?_
  rw [f21r0_eq]
  refine aw_reg ?_
  refine aops_go 1 9 (by kernel_rfl) ?_
  refine aops_end (by kernel_rfl) (then_normal ?_)
  rw [f21n1_eq]
  refine aw_then ?_
  rw [f21n2_eq]
  refine aw_then ?_
  rw [f21r1_eq]
  refine aw_draw0w (by kernel_rfl) ?_
  refine aops_go 3 9 (by kernel_rfl) ?_
  refine aops_val 11 (.int .i64 0) H (by kernel_rfl) (by kernel_rfl) (by kernel_rfl) ((by kernel_rfl : _ = val (aload T4 3 (.pointer (some ⟨M, 18, none⟩)) H) H).trans (val_of (load3 h.m h.i18))) ?_
  refine aops_go 5 9 (by kernel_rfl) ?_
  refine aops_val 17 (.int .i64 0) H (by kernel_rfl) (by kernel_rfl) (by kernel_rfl) ((by kernel_rfl : _ = val (aload T4 3 (.pointer (some ⟨M, 18, none⟩)) H) H).trans (val_of (load3 h.m h.i18))) ?_
  refine aops_go 3 9 (by kernel_rfl) ?_
  refine aops_val 21 (.slice (some ⟨C, 0, none⟩) 1 (unk + 5)) H (by kernel_rfl) (by kernel_rfl) (by kernel_rfl) ((by kernel_rfl : _ = val (aload T4 22 (.pointer (some ⟨M, 17, none⟩)) H) H).trans (val_of (load22 h.m h.i17))) ?_
  refine aops_go 3 9 (by kernel_rfl) ?_
  refine aops_end (by kernel_rfl) (then_normal ?_)
  rw [f21n3_eq]
  refine aw_cond (t := false) (by kernel_rfl) ?_
  refine aw_skip (then_normal ?_)
  rw [f21n5_eq]
  refine aw_then ?_
  rw [f21r3_eq]
  refine aw_draw0w (by kernel_rfl) ?_
  refine aops_go 3 9 (by kernel_rfl) ?_
  refine aops_val 28 (.slice (some ⟨C, 0, none⟩) 1 (unk + 5)) H (by kernel_rfl) (by kernel_rfl) (by kernel_rfl) ((by kernel_rfl : _ = val (aload T4 22 (.pointer (some ⟨M, 17, none⟩)) H) H).trans (val_of (load22 h.m h.i17))) ?_
  refine aops_go 3 9 (by kernel_rfl) ?_
  refine aops_val 32 (.int .i64 0) H (by kernel_rfl) (by kernel_rfl) (by kernel_rfl) ((by kernel_rfl : _ = val (aload T4 3 (.pointer (some ⟨M, 18, none⟩)) H) H).trans (val_of (load3 h.m h.i18))) ?_
  refine aops_go 1 9 (by kernel_rfl) ?_
  refine aops_val 34 (.agg #[.int .i64 15, .int .i64 0, .int .i64 0, .int .i64 0, .int .u32 E]) H (by kernel_rfl) (by kernel_rfl) (by kernel_rfl) ((by kernel_rfl : _ = val (aload T4 48 (.pointer (some ⟨C, 0, none⟩)) H) H).trans (val_of (load48 h.c))) ?_
  refine aops_go 1 9 (by kernel_rfl) ?_
  refine aops_skip H1 (by kernel_rfl) (by kernel_rfl) (by kernel_rfl) ((by kernel_rfl : _ = skp (astore T4 48 (.pointer (some ⟨H.n, 0, none⟩)) (.agg #[.int .i64 15, .int .i64 0, .int .i64 0, .int .i64 0, .int .u32 E]) (H.push ⟨[.int .i64 0, .int .i64 0, .int .i64 0, .int .i64 0, .int .u32 0], 48, false⟩))).trans (by rw [store48, ← hH1]; rfl)) ?_
  refine aops_end (by kernel_rfl) (then_normal ?_)
  rw [f21n6_eq]
  refine aw_then ?_
  rw [f21r4_eq]
  refine aw_draw0w (by kernel_rfl) ?_
  refine aops_go 2 9 (by kernel_rfl) ?_
  refine aops_val 37 (.int .i64 0) H1 (by kernel_rfl) (by kernel_rfl) (by kernel_rfl) ((by kernel_rfl : _ = val (aload T4 3 (.pointer (some ⟨H.n, 2, none⟩)) H1) H1).trans (val_of (load3 hN rfl))) ?_
  refine aops_go 3 9 (by kernel_rfl) ?_
  refine aops_val 41 (.int .u64 r0) H1 (by kernel_rfl) (by kernel_rfl) (by kernel_rfl) ((by kernel_rfl : _ = val (aload T4 42 (.pointer (some ⟨M, 0, none⟩)) H1) H1).trans (val_of (load42 h1.m (h1.ireg h0)))) ?_
  refine aops_go 2 9 (by kernel_rfl) ?_
  refine aops_val 44 (.int .i64 0) H1 (by kernel_rfl) (by kernel_rfl) (by kernel_rfl) ((by kernel_rfl : _ = val (aload T4 3 (.pointer (some ⟨H.n, 3, none⟩)) H1) H1).trans (val_of (load3 hN rfl))) ?_
  refine aops_go 3 9 (by kernel_rfl) ?_
  refine aops_val 48 (.int .u64 r0) H1 (by kernel_rfl) (by kernel_rfl) (by kernel_rfl) ((by kernel_rfl : _ = val (aload T4 42 (.pointer (some ⟨M, 0, none⟩)) H1) H1).trans (val_of (load42 h1.m (h1.ireg h0)))) ?_
  refine aops_go 2 9 (by kernel_rfl) ?_
  refine aops_end (by kernel_rfl) (then_normal ?_)
  rw [f21n7_eq]
  refine aw_then ?_
  rw [f21r5_eq]
  refine aw_reg ?_
  refine aops_go 2 9 (by kernel_rfl) ?_
  refine aops_val 51 (.int .u32 E) H1 (by kernel_rfl) (by kernel_rfl) (by kernel_rfl) ((by kernel_rfl : _ = val (aload T4 30 (.pointer (some ⟨H.n, 4, none⟩)) H1) H1).trans (val_of (load30 hN rfl))) ?_
  refine aops_go 3 9 (by kernel_rfl) ?_
  refine aops_end (by kernel_rfl) (then_normal ?_)
  rw [f21n8_eq]
  refine aw_then ?_
  rw [f21r6_eq]
  refine aw_reg ?_
  refine aops_go 3 9 (by kernel_rfl) ?_
  refine aops_val 57 (.int .i64 0) H1 (by kernel_rfl) (by kernel_rfl) (by kernel_rfl) ((by kernel_rfl : _ = val (aload T4 3 (.pointer (some ⟨M, 18, none⟩)) H1) H1).trans (val_of (load3 h1.m h1.i18))) ?_
  refine aops_go 2 9 (by kernel_rfl) ?_
  refine aops_end (by kernel_rfl) (then_normal ?_)
  rw [f21n9_eq]
  refine aw_then ?_
  rw [f21n10_eq]
  refine aw_then ?_
  rw [f21r7_eq]
  refine aw_reg ?_
  refine aops_go 1 9 (by kernel_rfl) ?_
  refine aops_val 60 (.int .i64 15) H1 (by kernel_rfl) (by kernel_rfl) (by kernel_rfl) ((by kernel_rfl : _ = val (aload T4 3 (.pointer (some ⟨H.n, 0, none⟩)) H1) H1).trans (val_of (load3 hN rfl))) ?_
  refine aops_end (by kernel_rfl) (then_normal ?_)
  rw [f21n11_eq]
  refine aw_block ?_
  rw [f21n12_eq]
  refine aw_then ?_
  rw [f21r9_eq]
  refine aw_reg ?_
  refine aops_go 2 9 (by kernel_rfl) ?_
  refine aops_end (by kernel_rfl) (then_normal ?_)
  rw [f21n13_eq]
  refine aw_cond (t := false) (by kernel_rfl) ?_
  rw [f21n14_eq]
  refine aw_then ?_
  rw [f21r10_eq]
  refine aw_reg ?_
  refine aops_go 2 9 (by kernel_rfl) ?_
  refine aops_end (by kernel_rfl) (then_normal ?_)
  rw [f21n15_eq]
  refine aw_cond (t := false) (by kernel_rfl) ?_
  rw [f21n16_eq]
  refine aw_then ?_
  rw [f21n17_eq]
  refine aw_then ?_
  rw [f21r12_eq]
  refine aw_reg ?_
  refine aops_go 2 9 (by kernel_rfl) ?_
  refine aops_end (by kernel_rfl) (then_normal ?_)
  rw [f21n18_eq]
  refine aw_cond (t := false) (by kernel_rfl) ?_
  rw [f21r13_eq]
  refine aw_reg ?_
  refine aops_go 2 9 (by kernel_rfl) ?_
  refine aops_end (by kernel_rfl) (then_normal ?_)
  rw [f21n19_eq]
  refine aw_cond (t := true) (by kernel_rfl) ?_
  rw [f21n20_eq]
  refine aw_then ?_
  rw [f21n21_eq]
  refine aw_then ?_
  rw [f21r14_eq]
  refine aw_reg ?_
  refine aops_go 4 9 (by kernel_rfl) ?_
  refine aops_val 92 (.slice (some ⟨W, 0, none⟩) 4 4) H1 (by kernel_rfl) (by kernel_rfl) (by kernel_rfl) ((by kernel_rfl : _ = val (aload T4 56 (.pointer (some ⟨M, 16, none⟩)) H1) H1).trans (val_of (load56 h1.m h1.i16))) ?_
  refine aops_go 3 9 (by kernel_rfl) ?_
  refine aops_see 95 (.bool true) ((by kernel_rfl : _ = some (.bool (decide ((IntKind.u64.wrap (r0 + IntKind.u64.wrap E)) ≥ 4)))).trans (by rw [hp])) ?_
  refine aops_end (by kernel_rfl) (then_normal ?_)
  rw [f21n22_eq]
  refine aw_cond (t := true) (by kernel_rfl) ?_
  rw [f21n23_eq]
  refine aw_then ?_
  rw [f21r15_eq]
  refine aw_reg ?_
  refine aops_go 1 9 (by kernel_rfl) ?_
  refine aops_end (by kernel_rfl) (then_normal ?_)
  exact aw_ret (then_ret (blk_ret (then_ret (bodyQ_ret ⟨.int .i64 4, by kernel_rfl, rfl, ext_of hE1 (by kernel_rfl)⟩))))
theorem step_jmp (h : MH H M W C Rl ws 18 E 0) (h0 : Rl[0]? = some (.int .u64 r0)) : ACall Try.prog T4 21 #[Pm M] H fun r H' => r = .int .i64 0 ∧ (∃ (cells : List Value) (r1 : Int), H'.get M = some ⟨cells, 62, false⟩ ∧ cells[18]? = some (.int .i64 (IntKind.i64.wrap E)) ∧ cells[0]? = some (.int .u64 r1)) ∧ (∀ b, b < H.n → b ≠ M → b ≠ W → H'.get b = H.get b) := by
  obtain ⟨H1, hH1⟩ : ∃ H1 : Heap, H1 = (H.push ⟨[.int .i64 0, .int .i64 0, .int .i64 0, .int .i64 0, .int .u32 0], 48, false⟩).put H.n ⟨[.int .i64 18, .int .i64 0, .int .i64 0, .int .i64 0, .int .u32 E], 48, false⟩ := ⟨_, rfl⟩
  have hE1 : Ext H H1 := by rw [hH1]; exact ((Ext.refl H).push _).put (Nat.le_refl _) _
  have h1 := h.ext hE1
  have hN : H1.get H.n = some ⟨[.int .i64 18, .int .i64 0, .int .i64 0, .int .i64 0, .int .u32 E], 48, false⟩ := by rw [hH1, Heap.get_put, if_pos rfl]
  refine acall_of' 144 (initTm 0 #[Pm M]) rfl fn21 f21_body rfl rfl ?_
  rw [f21b_eq]
  refine aw_then ?_
  rw [f21r0_eq]
  refine aw_reg ?_
  refine aops_go 1 9 (by kernel_rfl) ?_
  refine aops_end (by kernel_rfl) (then_normal ?_)
  rw [f21n1_eq]
  refine aw_then ?_
  rw [f21n2_eq]
  refine aw_then ?_
  rw [f21r1_eq]
  refine aw_draw0w (by kernel_rfl) ?_
  refine aops_go 3 9 (by kernel_rfl) ?_
  refine aops_val 11 (.int .i64 0) H (by kernel_rfl) (by kernel_rfl) (by kernel_rfl) ((by kernel_rfl : _ = val (aload T4 3 (.pointer (some ⟨M, 18, none⟩)) H) H).trans (val_of (load3 h.m h.i18))) ?_
  refine aops_go 5 9 (by kernel_rfl) ?_
  refine aops_val 17 (.int .i64 0) H (by kernel_rfl) (by kernel_rfl) (by kernel_rfl) ((by kernel_rfl : _ = val (aload T4 3 (.pointer (some ⟨M, 18, none⟩)) H) H).trans (val_of (load3 h.m h.i18))) ?_
  refine aops_go 3 9 (by kernel_rfl) ?_
  refine aops_val 21 (.slice (some ⟨C, 0, none⟩) 1 (unk + 5)) H (by kernel_rfl) (by kernel_rfl) (by kernel_rfl) ((by kernel_rfl : _ = val (aload T4 22 (.pointer (some ⟨M, 17, none⟩)) H) H).trans (val_of (load22 h.m h.i17))) ?_
  refine aops_go 3 9 (by kernel_rfl) ?_
  refine aops_end (by kernel_rfl) (then_normal ?_)
  rw [f21n3_eq]
  refine aw_cond (t := false) (by kernel_rfl) ?_
  refine aw_skip (then_normal ?_)
  rw [f21n5_eq]
  refine aw_then ?_
  rw [f21r3_eq]
  refine aw_draw0w (by kernel_rfl) ?_
  refine aops_go 3 9 (by kernel_rfl) ?_
  refine aops_val 28 (.slice (some ⟨C, 0, none⟩) 1 (unk + 5)) H (by kernel_rfl) (by kernel_rfl) (by kernel_rfl) ((by kernel_rfl : _ = val (aload T4 22 (.pointer (some ⟨M, 17, none⟩)) H) H).trans (val_of (load22 h.m h.i17))) ?_
  refine aops_go 3 9 (by kernel_rfl) ?_
  refine aops_val 32 (.int .i64 0) H (by kernel_rfl) (by kernel_rfl) (by kernel_rfl) ((by kernel_rfl : _ = val (aload T4 3 (.pointer (some ⟨M, 18, none⟩)) H) H).trans (val_of (load3 h.m h.i18))) ?_
  refine aops_go 1 9 (by kernel_rfl) ?_
  refine aops_val 34 (.agg #[.int .i64 18, .int .i64 0, .int .i64 0, .int .i64 0, .int .u32 E]) H (by kernel_rfl) (by kernel_rfl) (by kernel_rfl) ((by kernel_rfl : _ = val (aload T4 48 (.pointer (some ⟨C, 0, none⟩)) H) H).trans (val_of (load48 h.c))) ?_
  refine aops_go 1 9 (by kernel_rfl) ?_
  refine aops_skip H1 (by kernel_rfl) (by kernel_rfl) (by kernel_rfl) ((by kernel_rfl : _ = skp (astore T4 48 (.pointer (some ⟨H.n, 0, none⟩)) (.agg #[.int .i64 18, .int .i64 0, .int .i64 0, .int .i64 0, .int .u32 E]) (H.push ⟨[.int .i64 0, .int .i64 0, .int .i64 0, .int .i64 0, .int .u32 0], 48, false⟩))).trans (by rw [store48, ← hH1]; rfl)) ?_
  refine aops_end (by kernel_rfl) (then_normal ?_)
  rw [f21n6_eq]
  refine aw_then ?_
  rw [f21r4_eq]
  refine aw_draw0w (by kernel_rfl) ?_
  refine aops_go 2 9 (by kernel_rfl) ?_
  refine aops_val 37 (.int .i64 0) H1 (by kernel_rfl) (by kernel_rfl) (by kernel_rfl) ((by kernel_rfl : _ = val (aload T4 3 (.pointer (some ⟨H.n, 2, none⟩)) H1) H1).trans (val_of (load3 hN rfl))) ?_
  refine aops_go 3 9 (by kernel_rfl) ?_
  refine aops_val 41 (.int .u64 r0) H1 (by kernel_rfl) (by kernel_rfl) (by kernel_rfl) ((by kernel_rfl : _ = val (aload T4 42 (.pointer (some ⟨M, 0, none⟩)) H1) H1).trans (val_of (load42 h1.m (h1.ireg h0)))) ?_
  refine aops_go 2 9 (by kernel_rfl) ?_
  refine aops_val 44 (.int .i64 0) H1 (by kernel_rfl) (by kernel_rfl) (by kernel_rfl) ((by kernel_rfl : _ = val (aload T4 3 (.pointer (some ⟨H.n, 3, none⟩)) H1) H1).trans (val_of (load3 hN rfl))) ?_
  refine aops_go 3 9 (by kernel_rfl) ?_
  refine aops_val 48 (.int .u64 r0) H1 (by kernel_rfl) (by kernel_rfl) (by kernel_rfl) ((by kernel_rfl : _ = val (aload T4 42 (.pointer (some ⟨M, 0, none⟩)) H1) H1).trans (val_of (load42 h1.m (h1.ireg h0)))) ?_
  refine aops_go 2 9 (by kernel_rfl) ?_
  refine aops_end (by kernel_rfl) (then_normal ?_)
  rw [f21n7_eq]
  refine aw_then ?_
  rw [f21r5_eq]
  refine aw_reg ?_
  refine aops_go 2 9 (by kernel_rfl) ?_
  refine aops_val 51 (.int .u32 E) H1 (by kernel_rfl) (by kernel_rfl) (by kernel_rfl) ((by kernel_rfl : _ = val (aload T4 30 (.pointer (some ⟨H.n, 4, none⟩)) H1) H1).trans (val_of (load30 hN rfl))) ?_
  refine aops_go 3 9 (by kernel_rfl) ?_
  refine aops_end (by kernel_rfl) (then_normal ?_)
  rw [f21n8_eq]
  refine aw_then ?_
  rw [f21r6_eq]
  refine aw_reg ?_
  refine aops_go 3 9 (by kernel_rfl) ?_
  refine aops_val 57 (.int .i64 0) H1 (by kernel_rfl) (by kernel_rfl) (by kernel_rfl) ((by kernel_rfl : _ = val (aload T4 3 (.pointer (some ⟨M, 18, none⟩)) H1) H1).trans (val_of (load3 h1.m h1.i18))) ?_
  refine aops_go 2 9 (by kernel_rfl) ?_
  refine aops_end (by kernel_rfl) (then_normal ?_)
  rw [f21n9_eq]
  refine aw_then ?_
  rw [f21n10_eq]
  refine aw_then ?_
  rw [f21r7_eq]
  refine aw_reg ?_
  refine aops_go 1 9 (by kernel_rfl) ?_
  refine aops_val 60 (.int .i64 18) H1 (by kernel_rfl) (by kernel_rfl) (by kernel_rfl) ((by kernel_rfl : _ = val (aload T4 3 (.pointer (some ⟨H.n, 0, none⟩)) H1) H1).trans (val_of (load3 hN rfl))) ?_
  refine aops_end (by kernel_rfl) (then_normal ?_)
  rw [f21n11_eq]
  refine aw_block ?_
  rw [f21n12_eq]
  refine aw_then ?_
  rw [f21r9_eq]
  refine aw_reg ?_
  refine aops_go 2 9 (by kernel_rfl) ?_
  refine aops_end (by kernel_rfl) (then_normal ?_)
  rw [f21n13_eq]
  refine aw_cond (t := false) (by kernel_rfl) ?_
  rw [f21n14_eq]
  refine aw_then ?_
  rw [f21r10_eq]
  refine aw_reg ?_
  refine aops_go 2 9 (by kernel_rfl) ?_
  refine aops_end (by kernel_rfl) (then_normal ?_)
  rw [f21n15_eq]
  refine aw_cond (t := false) (by kernel_rfl) ?_
  rw [f21n16_eq]
  refine aw_then ?_
  rw [f21n17_eq]
  refine aw_then ?_
  rw [f21r12_eq]
  refine aw_reg ?_
  refine aops_go 2 9 (by kernel_rfl) ?_
  refine aops_end (by kernel_rfl) (then_normal ?_)
  rw [f21n18_eq]
  refine aw_cond (t := false) (by kernel_rfl) ?_
  rw [f21r13_eq]
  refine aw_reg ?_
  refine aops_go 2 9 (by kernel_rfl) ?_
  refine aops_end (by kernel_rfl) (then_normal ?_)
  rw [f21n19_eq]
  refine aw_cond (t := false) (by kernel_rfl) ?_
  rw [f21n26_eq]
  refine aw_then ?_
  rw [f21n27_eq]
  refine aw_then ?_
  rw [f21r19_eq]
  refine aw_reg ?_
  refine aops_go 2 9 (by kernel_rfl) ?_
  refine aops_end (by kernel_rfl) (then_normal ?_)
  rw [f21n28_eq]
  refine aw_cond (t := false) (by kernel_rfl) ?_
  rw [f21r20_eq]
  refine aw_reg ?_
  refine aops_go 2 9 (by kernel_rfl) ?_
  refine aops_end (by kernel_rfl) (then_normal ?_)
  rw [f21n29_eq]
  refine aw_cond (t := false) (by kernel_rfl) ?_
  rw [f21n32_eq]
  refine aw_then ?_
  rw [f21r23_eq]
  refine aw_reg ?_
  refine aops_go 2 9 (by kernel_rfl) ?_
  refine aops_end (by kernel_rfl) (then_normal ?_)
  rw [f21n33_eq]
  refine aw_cond (t := true) (by kernel_rfl) ?_
  rw [f21r24_eq]
  refine aw_reg ?_
  refine aops_go 1 9 (by kernel_rfl) ?_
  refine aops_val 136 (.int .u32 E) H1 (by kernel_rfl) (by kernel_rfl) (by kernel_rfl) ((by kernel_rfl : _ = val (aload T4 30 (.pointer (some ⟨H.n, 4, none⟩)) H1) H1).trans (val_of (load30 hN rfl))) ?_
  refine aops_go 2 9 (by kernel_rfl) ?_
  refine aops_end (by kernel_rfl) (blk_normal (then_normal ?_))
  rw [f21n37_eq]
  refine aw_then ?_
  rw [f21r27_eq]
  refine aw_reg ?_
  refine aops_go 4 9 (by kernel_rfl) ?_
  refine aops_skip (H1.put M ⟨((Rl ++ [Value.slice (some ⟨W, 0, none⟩) 4 4, Value.slice (some ⟨C, 0, none⟩) 1 (unk + 5), Value.int .i64 0])).set 18 (.int .i64 (IntKind.i64.wrap E)), 62, false⟩) (by kernel_rfl) (by kernel_rfl) (by kernel_rfl) ((by kernel_rfl : _ = skp (astore T4 3 (.pointer (some ⟨M, 18, none⟩)) (.int .i64 (IntKind.i64.wrap E)) H1)).trans (by rw [store1 size3 h1.m rfl rfl (by simp [h1.rl])]; rfl)) ?_
  refine aops_end (by kernel_rfl) (then_normal ?_)
  rw [f21n38_eq]
  refine aw_then ?_
  rw [f21r28_eq]
  refine aw_reg ?_
  refine aops_go 1 9 (by kernel_rfl) ?_
  refine aops_end (by kernel_rfl) (then_normal ?_)
  exact aw_ret (bodyQ_ret ⟨.int .i64 0, by kernel_rfl, rfl, ⟨((Rl ++ [Value.slice (some ⟨W, 0, none⟩) 4 4, Value.slice (some ⟨C, 0, none⟩) 1 (unk + 5), Value.int .i64 0])).set 18 (.int .i64 (IntKind.i64.wrap E)), _, get_of (H2 := H1) (by kernel_rfl), List.getElem?_set_self (by simp [h1.rl]), (List.getElem?_set_ne (by omega)).trans (h1.ireg h0)⟩, fun b hb hm hw => oth_of (H2 := H1) (ob := ⟨((Rl ++ [Value.slice (some ⟨W, 0, none⟩) 4 4, Value.slice (some ⟨C, 0, none⟩) 1 (unk + 5), Value.int .i64 0])).set 18 (.int .i64 (IntKind.i64.wrap E)), 62, false⟩) (by kernel_rfl) hm (hE1.get b hb)⟩)
theorem step_ld {p : Nat} (h : MH H M W C Rl ws 14 E 0) (h0 : Rl[0]? = some (.int .u64 r0)) (hp : decide ((IntKind.u64.wrap (r0 + IntKind.u64.wrap E)) ≥ 4) = false) (hP : (IntKind.u64.wrap (r0 + IntKind.u64.wrap E)) = (p : Int)) (hp4 : p < 4) {x : Int} (hx : ws[p]? = some (.int .u32 x)) : ACall Try.prog T4 21 #[Pm M] H fun r H' => r = .int .i64 0 ∧ (∃ (cells : List Value) (r1 : Int), H'.get M = some ⟨cells, 62, false⟩ ∧ cells[18]? = some (.int .i64 1) ∧ cells[0]? = some (.int .u64 r1)) ∧ (∀ b, b < H.n → b ≠ M → b ≠ W → H'.get b = H.get b) := by
  obtain ⟨H1, hH1⟩ : ∃ H1 : Heap, H1 = (H.push ⟨[.int .i64 0, .int .i64 0, .int .i64 0, .int .i64 0, .int .u32 0], 48, false⟩).put H.n ⟨[.int .i64 14, .int .i64 0, .int .i64 0, .int .i64 0, .int .u32 E], 48, false⟩ := ⟨_, rfl⟩
  have hE1 : Ext H H1 := by rw [hH1]; exact ((Ext.refl H).push _).put (Nat.le_refl _) _
  have h1 := h.ext hE1
  have hN : H1.get H.n = some ⟨[.int .i64 14, .int .i64 0, .int .i64 0, .int .i64 0, .int .u32 E], 48, false⟩ := by rw [hH1, Heap.get_put, if_pos rfl]
  refine acall_of' 144 (initTm 0 #[Pm M]) rfl fn21 f21_body rfl rfl ?_
  rw [f21b_eq]
  refine aw_then ?_
  rw [f21r0_eq]
  refine aw_reg ?_
  refine aops_go 1 9 (by kernel_rfl) ?_
  refine aops_end (by kernel_rfl) (then_normal ?_)
  rw [f21n1_eq]
  refine aw_then ?_
  rw [f21n2_eq]
  refine aw_then ?_
  rw [f21r1_eq]
  refine aw_draw0w (by kernel_rfl) ?_
  refine aops_go 3 9 (by kernel_rfl) ?_
  refine aops_val 11 (.int .i64 0) H (by kernel_rfl) (by kernel_rfl) (by kernel_rfl) ((by kernel_rfl : _ = val (aload T4 3 (.pointer (some ⟨M, 18, none⟩)) H) H).trans (val_of (load3 h.m h.i18))) ?_
  refine aops_go 5 9 (by kernel_rfl) ?_
  refine aops_val 17 (.int .i64 0) H (by kernel_rfl) (by kernel_rfl) (by kernel_rfl) ((by kernel_rfl : _ = val (aload T4 3 (.pointer (some ⟨M, 18, none⟩)) H) H).trans (val_of (load3 h.m h.i18))) ?_
  refine aops_go 3 9 (by kernel_rfl) ?_
  refine aops_val 21 (.slice (some ⟨C, 0, none⟩) 1 (unk + 5)) H (by kernel_rfl) (by kernel_rfl) (by kernel_rfl) ((by kernel_rfl : _ = val (aload T4 22 (.pointer (some ⟨M, 17, none⟩)) H) H).trans (val_of (load22 h.m h.i17))) ?_
  refine aops_go 3 9 (by kernel_rfl) ?_
  refine aops_end (by kernel_rfl) (then_normal ?_)
  rw [f21n3_eq]
  refine aw_cond (t := false) (by kernel_rfl) ?_
  refine aw_skip (then_normal ?_)
  rw [f21n5_eq]
  refine aw_then ?_
  rw [f21r3_eq]
  refine aw_draw0w (by kernel_rfl) ?_
  refine aops_go 3 9 (by kernel_rfl) ?_
  refine aops_val 28 (.slice (some ⟨C, 0, none⟩) 1 (unk + 5)) H (by kernel_rfl) (by kernel_rfl) (by kernel_rfl) ((by kernel_rfl : _ = val (aload T4 22 (.pointer (some ⟨M, 17, none⟩)) H) H).trans (val_of (load22 h.m h.i17))) ?_
  refine aops_go 3 9 (by kernel_rfl) ?_
  refine aops_val 32 (.int .i64 0) H (by kernel_rfl) (by kernel_rfl) (by kernel_rfl) ((by kernel_rfl : _ = val (aload T4 3 (.pointer (some ⟨M, 18, none⟩)) H) H).trans (val_of (load3 h.m h.i18))) ?_
  refine aops_go 1 9 (by kernel_rfl) ?_
  refine aops_val 34 (.agg #[.int .i64 14, .int .i64 0, .int .i64 0, .int .i64 0, .int .u32 E]) H (by kernel_rfl) (by kernel_rfl) (by kernel_rfl) ((by kernel_rfl : _ = val (aload T4 48 (.pointer (some ⟨C, 0, none⟩)) H) H).trans (val_of (load48 h.c))) ?_
  refine aops_go 1 9 (by kernel_rfl) ?_
  refine aops_skip H1 (by kernel_rfl) (by kernel_rfl) (by kernel_rfl) ((by kernel_rfl : _ = skp (astore T4 48 (.pointer (some ⟨H.n, 0, none⟩)) (.agg #[.int .i64 14, .int .i64 0, .int .i64 0, .int .i64 0, .int .u32 E]) (H.push ⟨[.int .i64 0, .int .i64 0, .int .i64 0, .int .i64 0, .int .u32 0], 48, false⟩))).trans (by rw [store48, ← hH1]; rfl)) ?_
  refine aops_end (by kernel_rfl) (then_normal ?_)
  rw [f21n6_eq]
  refine aw_then ?_
  rw [f21r4_eq]
  refine aw_draw0w (by kernel_rfl) ?_
  refine aops_go 2 9 (by kernel_rfl) ?_
  refine aops_val 37 (.int .i64 0) H1 (by kernel_rfl) (by kernel_rfl) (by kernel_rfl) ((by kernel_rfl : _ = val (aload T4 3 (.pointer (some ⟨H.n, 2, none⟩)) H1) H1).trans (val_of (load3 hN rfl))) ?_
  refine aops_go 3 9 (by kernel_rfl) ?_
  refine aops_val 41 (.int .u64 r0) H1 (by kernel_rfl) (by kernel_rfl) (by kernel_rfl) ((by kernel_rfl : _ = val (aload T4 42 (.pointer (some ⟨M, 0, none⟩)) H1) H1).trans (val_of (load42 h1.m (h1.ireg h0)))) ?_
  refine aops_go 2 9 (by kernel_rfl) ?_
  refine aops_val 44 (.int .i64 0) H1 (by kernel_rfl) (by kernel_rfl) (by kernel_rfl) ((by kernel_rfl : _ = val (aload T4 3 (.pointer (some ⟨H.n, 3, none⟩)) H1) H1).trans (val_of (load3 hN rfl))) ?_
  refine aops_go 3 9 (by kernel_rfl) ?_
  refine aops_val 48 (.int .u64 r0) H1 (by kernel_rfl) (by kernel_rfl) (by kernel_rfl) ((by kernel_rfl : _ = val (aload T4 42 (.pointer (some ⟨M, 0, none⟩)) H1) H1).trans (val_of (load42 h1.m (h1.ireg h0)))) ?_
  refine aops_go 2 9 (by kernel_rfl) ?_
  refine aops_end (by kernel_rfl) (then_normal ?_)
  rw [f21n7_eq]
  refine aw_then ?_
  rw [f21r5_eq]
  refine aw_reg ?_
  refine aops_go 2 9 (by kernel_rfl) ?_
  refine aops_val 51 (.int .u32 E) H1 (by kernel_rfl) (by kernel_rfl) (by kernel_rfl) ((by kernel_rfl : _ = val (aload T4 30 (.pointer (some ⟨H.n, 4, none⟩)) H1) H1).trans (val_of (load30 hN rfl))) ?_
  refine aops_go 3 9 (by kernel_rfl) ?_
  refine aops_end (by kernel_rfl) (then_normal ?_)
  rw [f21n8_eq]
  refine aw_then ?_
  rw [f21r6_eq]
  refine aw_reg ?_
  refine aops_go 3 9 (by kernel_rfl) ?_
  refine aops_val 57 (.int .i64 0) H1 (by kernel_rfl) (by kernel_rfl) (by kernel_rfl) ((by kernel_rfl : _ = val (aload T4 3 (.pointer (some ⟨M, 18, none⟩)) H1) H1).trans (val_of (load3 h1.m h1.i18))) ?_
  refine aops_go 2 9 (by kernel_rfl) ?_
  refine aops_end (by kernel_rfl) (then_normal ?_)
  rw [f21n9_eq]
  refine aw_then ?_
  rw [f21n10_eq]
  refine aw_then ?_
  rw [f21r7_eq]
  refine aw_reg ?_
  refine aops_go 1 9 (by kernel_rfl) ?_
  refine aops_val 60 (.int .i64 14) H1 (by kernel_rfl) (by kernel_rfl) (by kernel_rfl) ((by kernel_rfl : _ = val (aload T4 3 (.pointer (some ⟨H.n, 0, none⟩)) H1) H1).trans (val_of (load3 hN rfl))) ?_
  refine aops_end (by kernel_rfl) (then_normal ?_)
  rw [f21n11_eq]
  refine aw_block ?_
  rw [f21n12_eq]
  refine aw_then ?_
  rw [f21r9_eq]
  refine aw_reg ?_
  refine aops_go 2 9 (by kernel_rfl) ?_
  refine aops_end (by kernel_rfl) (then_normal ?_)
  rw [f21n13_eq]
  refine aw_cond (t := false) (by kernel_rfl) ?_
  rw [f21n14_eq]
  refine aw_then ?_
  rw [f21r10_eq]
  refine aw_reg ?_
  refine aops_go 2 9 (by kernel_rfl) ?_
  refine aops_end (by kernel_rfl) (then_normal ?_)
  rw [f21n15_eq]
  refine aw_cond (t := false) (by kernel_rfl) ?_
  rw [f21n16_eq]
  refine aw_then ?_
  rw [f21n17_eq]
  refine aw_then ?_
  rw [f21r12_eq]
  refine aw_reg ?_
  refine aops_go 2 9 (by kernel_rfl) ?_
  refine aops_end (by kernel_rfl) (then_normal ?_)
  rw [f21n18_eq]
  refine aw_cond (t := true) (by kernel_rfl) ?_
  refine aw_skip (then_normal ?_)
  rw [f21n19_eq]
  refine aw_cond (t := true) (by kernel_rfl) ?_
  rw [f21n20_eq]
  refine aw_then ?_
  rw [f21n21_eq]
  refine aw_then ?_
  rw [f21r14_eq]
  refine aw_reg ?_
  refine aops_go 4 9 (by kernel_rfl) ?_
  refine aops_val 92 (.slice (some ⟨W, 0, none⟩) 4 4) H1 (by kernel_rfl) (by kernel_rfl) (by kernel_rfl) ((by kernel_rfl : _ = val (aload T4 56 (.pointer (some ⟨M, 16, none⟩)) H1) H1).trans (val_of (load56 h1.m h1.i16))) ?_
  refine aops_go 3 9 (by kernel_rfl) ?_
  refine aops_see 95 (.bool false) ((by kernel_rfl : _ = some (.bool (decide ((IntKind.u64.wrap (r0 + IntKind.u64.wrap E)) ≥ 4)))).trans (by rw [hp])) ?_
  refine aops_end (by kernel_rfl) (then_normal ?_)
  rw [f21n22_eq]
  refine aw_cond (t := false) (by kernel_rfl) ?_
  refine aw_skip (then_normal ?_)
  rw [f21n24_eq]
  refine aw_then ?_
  rw [f21r16_eq]
  refine aw_reg ?_
  refine aops_go 1 9 (by kernel_rfl) ?_
  refine aops_val 97 (.int .i64 14) H1 (by kernel_rfl) (by kernel_rfl) (by kernel_rfl) ((by kernel_rfl : _ = val (aload T4 3 (.pointer (some ⟨H.n, 0, none⟩)) H1) H1).trans (val_of (load3 hN rfl))) ?_
  refine aops_go 1 9 (by kernel_rfl) ?_
  refine aops_end (by kernel_rfl) (then_normal ?_)
  rw [f21n25_eq]
  refine aw_cond (t := true) (by kernel_rfl) ?_
  rw [f21r17_eq]
  refine aw_draw0w (by kernel_rfl) ?_
  refine aops_go 2 9 (by kernel_rfl) ?_
  refine aops_val 101 (.int .i64 0) H1 (by kernel_rfl) (by kernel_rfl) (by kernel_rfl) ((by kernel_rfl : _ = val (aload T4 3 (.pointer (some ⟨H.n, 1, none⟩)) H1) H1).trans (val_of (load3 hN rfl))) ?_
  refine aops_go 3 9 (by kernel_rfl) ?_
  refine aops_val 105 (.slice (some ⟨W, 0, none⟩) 4 4) H1 (by kernel_rfl) (by kernel_rfl) (by kernel_rfl) ((by kernel_rfl : _ = val (aload T4 56 (.pointer (some ⟨M, 16, none⟩)) H1) H1).trans (val_of (load56 h1.m h1.i16))) ?_
  refine aops_go 1 9 (by kernel_rfl) ?_
  refine aops_see 106 (.int .u64 (p : Int)) ((by kernel_rfl : _ = some (.int .u64 (IntKind.u64.wrap (r0 + IntKind.u64.wrap E)))).trans (by rw [hP])) ?_
  refine aops_val 107 (.pointer (some ⟨W, p, none⟩)) H1 (by kernel_rfl) (by kernel_rfl) (by kernel_rfl) ((by kernel_rfl : _ = val (bif p.blt 4 then some (.pointer (some ⟨W, 0 + p * 1, none⟩)) else none) H1).trans (by rw [show p.blt 4 = true from by rw [blt_dec]; simp [hp4]]; simp [val])) ?_
  refine aops_val 108 (.int .u32 x) H1 (by kernel_rfl) (by kernel_rfl) (by kernel_rfl) ((by kernel_rfl : _ = val (aload T4 30 (.pointer (some ⟨W, p, none⟩)) H1) H1).trans (val_of (load30 h1.w hx))) ?_
  refine aops_go 4 9 (by kernel_rfl) ?_
  obtain ⟨H2, hH2⟩ : ∃ H2 : Heap, H2 = H1.put M ⟨(Rl ++ [Value.slice (some ⟨W, 0, none⟩) 4 4, Value.slice (some ⟨C, 0, none⟩) 1 (unk + 5), Value.int .i64 0]).set 0 (.int .u64 (IntKind.u64.wrap x)), 62, false⟩ := ⟨_, rfl⟩
  have hm2 : H2.get M = some ⟨(Rl ++ [Value.slice (some ⟨W, 0, none⟩) 4 4, Value.slice (some ⟨C, 0, none⟩) 1 (unk + 5), Value.int .i64 0]).set 0 (.int .u64 (IntKind.u64.wrap x)), 62, false⟩ := by rw [hH2, Heap.get_put, if_pos rfl]
  refine aops_skip H2 (by kernel_rfl) (by kernel_rfl) (by kernel_rfl) ((by kernel_rfl : _ = skp (astore T4 42 (.pointer (some ⟨M, 0, none⟩)) (.int .u64 (IntKind.u64.wrap x)) H1)).trans (by rw [store1 size42 h1.m rfl rfl (by simp [h1.rl]), ← hH2]; rfl)) ?_
  refine aops_end (by kernel_rfl) (blk_normal (then_normal ?_))
  rw [f21n37_eq]
  refine aw_then ?_
  rw [f21r27_eq]
  refine aw_reg ?_
  refine aops_go 4 9 (by kernel_rfl) ?_
  refine aops_skip (H2.put M ⟨((Rl ++ [Value.slice (some ⟨W, 0, none⟩) 4 4, Value.slice (some ⟨C, 0, none⟩) 1 (unk + 5), Value.int .i64 0]).set 0 (.int .u64 (IntKind.u64.wrap x))).set 18 (.int .i64 1), 62, false⟩) (by kernel_rfl) (by kernel_rfl) (by kernel_rfl) ((by kernel_rfl : _ = skp (astore T4 3 (.pointer (some ⟨M, 18, none⟩)) (.int .i64 1) H2)).trans (by rw [store1 size3 hm2 rfl rfl (by simp [h1.rl])]; rfl)) ?_
  refine aops_end (by kernel_rfl) (then_normal ?_)
  rw [f21n38_eq]
  refine aw_then ?_
  rw [f21r28_eq]
  refine aw_reg ?_
  refine aops_go 1 9 (by kernel_rfl) ?_
  refine aops_end (by kernel_rfl) (then_normal ?_)
  exact aw_ret (bodyQ_ret ⟨.int .i64 0, by kernel_rfl, rfl, ⟨((Rl ++ [Value.slice (some ⟨W, 0, none⟩) 4 4, Value.slice (some ⟨C, 0, none⟩) 1 (unk + 5), Value.int .i64 0]).set 0 (.int .u64 (IntKind.u64.wrap x))).set 18 (.int .i64 1), _, get_of (H2 := H2) (by kernel_rfl), List.getElem?_set_self (by simp [h1.rl]), (List.getElem?_set_ne (by omega)).trans (List.getElem?_set_self (by simp [h1.rl]))⟩, fun b hb hm hw => oth_of (H2 := H2) (ob := ⟨((Rl ++ [Value.slice (some ⟨W, 0, none⟩) 4 4, Value.slice (some ⟨C, 0, none⟩) 1 (unk + 5), Value.int .i64 0]).set 0 (.int .u64 (IntKind.u64.wrap x))).set 18 (.int .i64 1), 62, false⟩) (by kernel_rfl) hm (by rw [hH2, Heap.get_put, if_neg hm]; exact hE1.get b hb)⟩)
theorem step_st {p : Nat} (h : MH H M W C Rl ws 15 E 0) (h0 : Rl[0]? = some (.int .u64 r0)) (hp : decide ((IntKind.u64.wrap (r0 + IntKind.u64.wrap E)) ≥ 4) = false) (hP : (IntKind.u64.wrap (r0 + IntKind.u64.wrap E)) = (p : Int)) (hp4 : p < 4) : ACall Try.prog T4 21 #[Pm M] H fun r H' => r = .int .i64 0 ∧ (∃ (cells : List Value) (r1 : Int), H'.get M = some ⟨cells, 62, false⟩ ∧ cells[18]? = some (.int .i64 1) ∧ cells[0]? = some (.int .u64 r1)) ∧ (∀ b, b < H.n → b ≠ M → b ≠ W → H'.get b = H.get b) := by
  obtain ⟨H1, hH1⟩ : ∃ H1 : Heap, H1 = (H.push ⟨[.int .i64 0, .int .i64 0, .int .i64 0, .int .i64 0, .int .u32 0], 48, false⟩).put H.n ⟨[.int .i64 15, .int .i64 0, .int .i64 0, .int .i64 0, .int .u32 E], 48, false⟩ := ⟨_, rfl⟩
  have hE1 : Ext H H1 := by rw [hH1]; exact ((Ext.refl H).push _).put (Nat.le_refl _) _
  have h1 := h.ext hE1
  have hN : H1.get H.n = some ⟨[.int .i64 15, .int .i64 0, .int .i64 0, .int .i64 0, .int .u32 E], 48, false⟩ := by rw [hH1, Heap.get_put, if_pos rfl]
  refine acall_of' 144 (initTm 0 #[Pm M]) rfl fn21 f21_body rfl rfl ?_
  rw [f21b_eq]
  refine aw_then ?_
  rw [f21r0_eq]
  refine aw_reg ?_
  refine aops_go 1 9 (by kernel_rfl) ?_
  refine aops_end (by kernel_rfl) (then_normal ?_)
  rw [f21n1_eq]
  refine aw_then ?_
  rw [f21n2_eq]
  refine aw_then ?_
  rw [f21r1_eq]
  refine aw_draw0w (by kernel_rfl) ?_
  refine aops_go 3 9 (by kernel_rfl) ?_
  refine aops_val 11 (.int .i64 0) H (by kernel_rfl) (by kernel_rfl) (by kernel_rfl) ((by kernel_rfl : _ = val (aload T4 3 (.pointer (some ⟨M, 18, none⟩)) H) H).trans (val_of (load3 h.m h.i18))) ?_
  refine aops_go 5 9 (by kernel_rfl) ?_
  refine aops_val 17 (.int .i64 0) H (by kernel_rfl) (by kernel_rfl) (by kernel_rfl) ((by kernel_rfl : _ = val (aload T4 3 (.pointer (some ⟨M, 18, none⟩)) H) H).trans (val_of (load3 h.m h.i18))) ?_
  refine aops_go 3 9 (by kernel_rfl) ?_
  refine aops_val 21 (.slice (some ⟨C, 0, none⟩) 1 (unk + 5)) H (by kernel_rfl) (by kernel_rfl) (by kernel_rfl) ((by kernel_rfl : _ = val (aload T4 22 (.pointer (some ⟨M, 17, none⟩)) H) H).trans (val_of (load22 h.m h.i17))) ?_
  refine aops_go 3 9 (by kernel_rfl) ?_
  refine aops_end (by kernel_rfl) (then_normal ?_)
  rw [f21n3_eq]
  refine aw_cond (t := false) (by kernel_rfl) ?_
  refine aw_skip (then_normal ?_)
  rw [f21n5_eq]
  refine aw_then ?_
  rw [f21r3_eq]
  refine aw_draw0w (by kernel_rfl) ?_
  refine aops_go 3 9 (by kernel_rfl) ?_
  refine aops_val 28 (.slice (some ⟨C, 0, none⟩) 1 (unk + 5)) H (by kernel_rfl) (by kernel_rfl) (by kernel_rfl) ((by kernel_rfl : _ = val (aload T4 22 (.pointer (some ⟨M, 17, none⟩)) H) H).trans (val_of (load22 h.m h.i17))) ?_
  refine aops_go 3 9 (by kernel_rfl) ?_
  refine aops_val 32 (.int .i64 0) H (by kernel_rfl) (by kernel_rfl) (by kernel_rfl) ((by kernel_rfl : _ = val (aload T4 3 (.pointer (some ⟨M, 18, none⟩)) H) H).trans (val_of (load3 h.m h.i18))) ?_
  refine aops_go 1 9 (by kernel_rfl) ?_
  refine aops_val 34 (.agg #[.int .i64 15, .int .i64 0, .int .i64 0, .int .i64 0, .int .u32 E]) H (by kernel_rfl) (by kernel_rfl) (by kernel_rfl) ((by kernel_rfl : _ = val (aload T4 48 (.pointer (some ⟨C, 0, none⟩)) H) H).trans (val_of (load48 h.c))) ?_
  refine aops_go 1 9 (by kernel_rfl) ?_
  refine aops_skip H1 (by kernel_rfl) (by kernel_rfl) (by kernel_rfl) ((by kernel_rfl : _ = skp (astore T4 48 (.pointer (some ⟨H.n, 0, none⟩)) (.agg #[.int .i64 15, .int .i64 0, .int .i64 0, .int .i64 0, .int .u32 E]) (H.push ⟨[.int .i64 0, .int .i64 0, .int .i64 0, .int .i64 0, .int .u32 0], 48, false⟩))).trans (by rw [store48, ← hH1]; rfl)) ?_
  refine aops_end (by kernel_rfl) (then_normal ?_)
  rw [f21n6_eq]
  refine aw_then ?_
  rw [f21r4_eq]
  refine aw_draw0w (by kernel_rfl) ?_
  refine aops_go 2 9 (by kernel_rfl) ?_
  refine aops_val 37 (.int .i64 0) H1 (by kernel_rfl) (by kernel_rfl) (by kernel_rfl) ((by kernel_rfl : _ = val (aload T4 3 (.pointer (some ⟨H.n, 2, none⟩)) H1) H1).trans (val_of (load3 hN rfl))) ?_
  refine aops_go 3 9 (by kernel_rfl) ?_
  refine aops_val 41 (.int .u64 r0) H1 (by kernel_rfl) (by kernel_rfl) (by kernel_rfl) ((by kernel_rfl : _ = val (aload T4 42 (.pointer (some ⟨M, 0, none⟩)) H1) H1).trans (val_of (load42 h1.m (h1.ireg h0)))) ?_
  refine aops_go 2 9 (by kernel_rfl) ?_
  refine aops_val 44 (.int .i64 0) H1 (by kernel_rfl) (by kernel_rfl) (by kernel_rfl) ((by kernel_rfl : _ = val (aload T4 3 (.pointer (some ⟨H.n, 3, none⟩)) H1) H1).trans (val_of (load3 hN rfl))) ?_
  refine aops_go 3 9 (by kernel_rfl) ?_
  refine aops_val 48 (.int .u64 r0) H1 (by kernel_rfl) (by kernel_rfl) (by kernel_rfl) ((by kernel_rfl : _ = val (aload T4 42 (.pointer (some ⟨M, 0, none⟩)) H1) H1).trans (val_of (load42 h1.m (h1.ireg h0)))) ?_
  refine aops_go 2 9 (by kernel_rfl) ?_
  refine aops_end (by kernel_rfl) (then_normal ?_)
  rw [f21n7_eq]
  refine aw_then ?_
  rw [f21r5_eq]
  refine aw_reg ?_
  refine aops_go 2 9 (by kernel_rfl) ?_
  refine aops_val 51 (.int .u32 E) H1 (by kernel_rfl) (by kernel_rfl) (by kernel_rfl) ((by kernel_rfl : _ = val (aload T4 30 (.pointer (some ⟨H.n, 4, none⟩)) H1) H1).trans (val_of (load30 hN rfl))) ?_
  refine aops_go 3 9 (by kernel_rfl) ?_
  refine aops_end (by kernel_rfl) (then_normal ?_)
  rw [f21n8_eq]
  refine aw_then ?_
  rw [f21r6_eq]
  refine aw_reg ?_
  refine aops_go 3 9 (by kernel_rfl) ?_
  refine aops_val 57 (.int .i64 0) H1 (by kernel_rfl) (by kernel_rfl) (by kernel_rfl) ((by kernel_rfl : _ = val (aload T4 3 (.pointer (some ⟨M, 18, none⟩)) H1) H1).trans (val_of (load3 h1.m h1.i18))) ?_
  refine aops_go 2 9 (by kernel_rfl) ?_
  refine aops_end (by kernel_rfl) (then_normal ?_)
  rw [f21n9_eq]
  refine aw_then ?_
  rw [f21n10_eq]
  refine aw_then ?_
  rw [f21r7_eq]
  refine aw_reg ?_
  refine aops_go 1 9 (by kernel_rfl) ?_
  refine aops_val 60 (.int .i64 15) H1 (by kernel_rfl) (by kernel_rfl) (by kernel_rfl) ((by kernel_rfl : _ = val (aload T4 3 (.pointer (some ⟨H.n, 0, none⟩)) H1) H1).trans (val_of (load3 hN rfl))) ?_
  refine aops_end (by kernel_rfl) (then_normal ?_)
  rw [f21n11_eq]
  refine aw_block ?_
  rw [f21n12_eq]
  refine aw_then ?_
  rw [f21r9_eq]
  refine aw_reg ?_
  refine aops_go 2 9 (by kernel_rfl) ?_
  refine aops_end (by kernel_rfl) (then_normal ?_)
  rw [f21n13_eq]
  refine aw_cond (t := false) (by kernel_rfl) ?_
  rw [f21n14_eq]
  refine aw_then ?_
  rw [f21r10_eq]
  refine aw_reg ?_
  refine aops_go 2 9 (by kernel_rfl) ?_
  refine aops_end (by kernel_rfl) (then_normal ?_)
  rw [f21n15_eq]
  refine aw_cond (t := false) (by kernel_rfl) ?_
  rw [f21n16_eq]
  refine aw_then ?_
  rw [f21n17_eq]
  refine aw_then ?_
  rw [f21r12_eq]
  refine aw_reg ?_
  refine aops_go 2 9 (by kernel_rfl) ?_
  refine aops_end (by kernel_rfl) (then_normal ?_)
  rw [f21n18_eq]
  refine aw_cond (t := false) (by kernel_rfl) ?_
  rw [f21r13_eq]
  refine aw_reg ?_
  refine aops_go 2 9 (by kernel_rfl) ?_
  refine aops_end (by kernel_rfl) (then_normal ?_)
  rw [f21n19_eq]
  refine aw_cond (t := true) (by kernel_rfl) ?_
  rw [f21n20_eq]
  refine aw_then ?_
  rw [f21n21_eq]
  refine aw_then ?_
  rw [f21r14_eq]
  refine aw_reg ?_
  refine aops_go 4 9 (by kernel_rfl) ?_
  refine aops_val 92 (.slice (some ⟨W, 0, none⟩) 4 4) H1 (by kernel_rfl) (by kernel_rfl) (by kernel_rfl) ((by kernel_rfl : _ = val (aload T4 56 (.pointer (some ⟨M, 16, none⟩)) H1) H1).trans (val_of (load56 h1.m h1.i16))) ?_
  refine aops_go 3 9 (by kernel_rfl) ?_
  refine aops_see 95 (.bool false) ((by kernel_rfl : _ = some (.bool (decide ((IntKind.u64.wrap (r0 + IntKind.u64.wrap E)) ≥ 4)))).trans (by rw [hp])) ?_
  refine aops_end (by kernel_rfl) (then_normal ?_)
  rw [f21n22_eq]
  refine aw_cond (t := false) (by kernel_rfl) ?_
  refine aw_skip (then_normal ?_)
  rw [f21n24_eq]
  refine aw_then ?_
  rw [f21r16_eq]
  refine aw_reg ?_
  refine aops_go 1 9 (by kernel_rfl) ?_
  refine aops_val 97 (.int .i64 15) H1 (by kernel_rfl) (by kernel_rfl) (by kernel_rfl) ((by kernel_rfl : _ = val (aload T4 3 (.pointer (some ⟨H.n, 0, none⟩)) H1) H1).trans (val_of (load3 hN rfl))) ?_
  refine aops_go 1 9 (by kernel_rfl) ?_
  refine aops_end (by kernel_rfl) (then_normal ?_)
  rw [f21n25_eq]
  refine aw_cond (t := false) (by kernel_rfl) ?_
  rw [f21r18_eq]
  refine aw_reg ?_
  refine aops_go 3 9 (by kernel_rfl) ?_
  refine aops_val 116 (.slice (some ⟨W, 0, none⟩) 4 4) H1 (by kernel_rfl) (by kernel_rfl) (by kernel_rfl) ((by kernel_rfl : _ = val (aload T4 56 (.pointer (some ⟨M, 16, none⟩)) H1) H1).trans (val_of (load56 h1.m h1.i16))) ?_
  refine aops_go 3 9 (by kernel_rfl) ?_
  refine aops_see 117 (.int .u64 (p : Int)) ((by kernel_rfl : _ = some (.int .u64 (IntKind.u64.wrap (r0 + IntKind.u64.wrap E)))).trans (by rw [hP])) ?_
  refine aops_val 120 (.pointer (some ⟨W, p, none⟩)) H1 (by kernel_rfl) (by kernel_rfl) (by kernel_rfl) ((by kernel_rfl : _ = val (bif p.blt 4 then some (.pointer (some ⟨W, 0 + p * 1, none⟩)) else none) H1).trans (by rw [show p.blt 4 = true from by rw [blt_dec]; simp [hp4]]; simp [val])) ?_
  obtain ⟨H2, hH2⟩ : ∃ H2 : Heap, H2 = H1.put W ⟨ws.set p (.int .u32 (IntKind.u32.wrap r0)), 30, false⟩ := ⟨_, rfl⟩
  have hm2 : H2.get M = some ⟨(Rl ++ [Value.slice (some ⟨W, 0, none⟩) 4 4, Value.slice (some ⟨C, 0, none⟩) 1 (unk + 5), Value.int .i64 0]), 62, false⟩ := by rw [hH2, Heap.get_put, if_neg h1.mw]; exact h1.m
  refine aops_skip H2 (by kernel_rfl) (by kernel_rfl) (by kernel_rfl) ((by kernel_rfl : _ = skp (astore T4 30 (.pointer (some ⟨W, p, none⟩)) (.int .u32 (IntKind.u32.wrap r0)) H1)).trans (by rw [store1 size30 h1.w rfl rfl (by rw [h1.wl]; exact hp4), ← hH2]; rfl)) ?_
  refine aops_end (by kernel_rfl) (blk_normal (then_normal ?_))
  rw [f21n37_eq]
  refine aw_then ?_
  rw [f21r27_eq]
  refine aw_reg ?_
  refine aops_go 4 9 (by kernel_rfl) ?_
  refine aops_skip (H2.put M ⟨((Rl ++ [Value.slice (some ⟨W, 0, none⟩) 4 4, Value.slice (some ⟨C, 0, none⟩) 1 (unk + 5), Value.int .i64 0])).set 18 (.int .i64 1), 62, false⟩) (by kernel_rfl) (by kernel_rfl) (by kernel_rfl) ((by kernel_rfl : _ = skp (astore T4 3 (.pointer (some ⟨M, 18, none⟩)) (.int .i64 1) H2)).trans (by rw [store1 size3 hm2 rfl rfl (by simp [h1.rl])]; rfl)) ?_
  refine aops_end (by kernel_rfl) (then_normal ?_)
  rw [f21n38_eq]
  refine aw_then ?_
  rw [f21r28_eq]
  refine aw_reg ?_
  refine aops_go 1 9 (by kernel_rfl) ?_
  refine aops_end (by kernel_rfl) (then_normal ?_)
  exact aw_ret (bodyQ_ret ⟨.int .i64 0, by kernel_rfl, rfl, ⟨((Rl ++ [Value.slice (some ⟨W, 0, none⟩) 4 4, Value.slice (some ⟨C, 0, none⟩) 1 (unk + 5), Value.int .i64 0])).set 18 (.int .i64 1), _, get_of (H2 := H2) (by kernel_rfl), List.getElem?_set_self (by simp [h1.rl]), (List.getElem?_set_ne (by omega)).trans (h1.ireg h0)⟩, fun b hb hm hw => oth_of (H2 := H2) (ob := ⟨((Rl ++ [Value.slice (some ⟨W, 0, none⟩) 4 4, Value.slice (some ⟨C, 0, none⟩) 1 (unk + 5), Value.int .i64 0])).set 18 (.int .i64 1), 62, false⟩) (by kernel_rfl) hm (by rw [hH2, Heap.get_put, if_neg hw]; exact hE1.get b hb)⟩)
end
end Hs
end Go.Proofs.Ytjhijpfbokklcaa
