/- Chapter 21: the document's pressure. -/
import Derived.Test.YtegjicaoemhhlaaJr
namespace Go.Proofs.Ytegjicaoemhhlaa
open Go Go.Ev Go.RowKit
set_option linter.unusedVariables false
set_option linter.unusedSimpArgs false
set_option maxRecDepth 100000
namespace Ls
noncomputable def f15b : Code := Try.f15.body.getD .skip
theorem f15_body : Try.f15.body = some f15b := by kernel_rfl
theorem f15_fn : T16.fn 15 = some Try.f15 := by kernel_rfl
set_option maxHeartbeats 2000000 in
theorem press20_s {l : List IV} {m kc : Nat} (hm : m = l.length) (hl : l.length < 100000) : SCall Try.prog T16 15 #[.slice (some ⟨0, 0, none⟩) m kc] (hq [some ⟨(tab ivC l), 53, false⟩]) fun v h => ∃ (pv : Nat), (∀ (i : Nat) (a : IV), l[i]? = some a → cntAt l a.2.1 ≤ pv) ∧ pv ≤ l.length ∧ v = .int .i64 (pv : Int) ∧ h = hq [some ⟨(tab ivC l), 53, false⟩] := by
 refine scall_sd 79 _ 1 kr f15_fn f15_body rfl rfl rfl fun X hX => ?_
 refine sd_run 17 ?_
 refine sd_loop 79 (cl (cl (cr (cl (cr (cr f15b)))))) [.blk 0, .next (cr (cr (cr f15b)))] kr kr kr (fun m9 s9 => ∃ (i : Nat) (p : Nat), m9 = m - i ∧ (i ≤ m) ∧ (p ≤ l.length) ∧ (∀ (i9 : Nat) (a9 : IV), i9 < i → l[i9]? = some a9 → cntAt l a9.2.1 ≤ p) ∧ s9 = ⟨tmL [(0, .slice (some ⟨0, 0, none⟩) m kc), (3, .int .i64 (p : Int)), (4, .int .i64 (i : Int))], hq [some ⟨(tab ivC l), 53, false⟩]⟩) (m - 0) _ e1_ hX ⟨0, 0, rfl, (Nat.zero_le _), (Nat.zero_le _), (fun i9 a9 h => absurd h (Nat.not_lt_zero _)), rfl⟩ ⟨sub_of kr kr ⟨ivC_b, ⟨⟩⟩, te_of kr kr⟩ kr ?_
 rintro m9 s9 ⟨i, p, rfl, i1_0, i1_1, i1_2, rfl⟩ R1_ hR1_
 by_cases hlt : i < m
 ·skip
  obtain ⟨a1, ha1⟩ : ∃ x_, (l)[i]? = some x_ := ⟨_, List.getElem?_eq_getElem (by omega)⟩
  refine sd_run 7 (sdT 12 ((i : Int) < (m : Int)) (by omega) kr (sd_run 11 (sd_ix 17 (.pointer (some ⟨0, 0 + i * 3, none⟩)) i m kr kr kr (by omega) (sd_run 1 (sd_ld 19 (.int .i64 a1.2.1) 3 (.pointer (some ⟨0, 0 + i * 3 + 1, none⟩)) kr kr kr (ld_cell (l := l) (e := 53) (ro := false) (k := i) (j := 1) ivC_len kr kr kr ha1 rfl) (sd_run 2 (sd_ix 22 (.pointer (some ⟨0, 0 + i * 3, none⟩)) i m kr kr kr (by omega) ?_)))))))
  refine sd_run 1 (sd_ld 24 (.int .i64 a1.2.2) 3 (.pointer (some ⟨0, 0 + i * 3 + 2, none⟩)) kr kr kr (ld_cell (l := l) (e := 53) (ro := false) (k := i) (j := 2) ivC_len kr kr kr ha1 rfl) (sd_run 37 ?_))
  refine sd_loop 79 (cl (cl (cr (cl (cr (cr (cl (cl (cr (cr (cl (cl (cr (cl (cl (cr (cl (cl (cr (cl (cr (cr f15b)))))))))))))))))))))) [.blk 4, .next (cr (cr (cr (cl (cl (cr (cr (cl (cl (cr (cl (cl (cr (cl (cl (cr (cl (cr (cr f15b))))))))))))))))))), .blk 3, .next (cr (cr (cr (cl (cl (cr (cl (cl (cr (cl (cl (cr (cl (cr (cr f15b))))))))))))))), .loop (cl (cl (cr (cl (cl (cr (cl (cl (cr (cl (cr (cr f15b)))))))))))), .blk 2, .blk 1, .next (cr (cr (cl (cl (cr (cl (cr (cr f15b)))))))), .inv R1_, .blk 0, .next (cr (cr (cr f15b)))] kr kr kr (fun m9 s9 => ∃ (j1 : Nat), m9 = m - j1 ∧ (j1 ≤ m) ∧ s9 = ⟨tmL [(0, .slice (some ⟨0, 0, none⟩) m kc), (3, .int .i64 (p : Int)), (4, .int .i64 (i : Int)), (6, .int .i64 a1.2.1), (7, .int .i64 (((cntT l a1.2.1 j1) : Nat) : Int)), (8, .int .i64 (j1 : Int)), (25, .slice (some ⟨1, 0, none⟩) 2 2), (26, .int .i64 2), (27, .int .i64 0)], hq [some ⟨(tab ivC l), 53, false⟩, some ⟨[Value.int .i64 a1.2.1, .int .i64 a1.2.2], 3, false⟩]⟩) (m - 0) _ e2_ hX ⟨0, rfl, (by omega), rfl⟩ ⟨sub_of kr kr ⟨ivC_b, brn, ⟨⟩⟩, te_of kr kr⟩ kr ?_
  rintro m9 s9 ⟨j1, rfl, i2_0, rfl⟩ R2_ hR2_
  by_cases hj1 : j1 < m
  ·skip
   obtain ⟨a2, ha2⟩ : ∃ x_, (l)[j1]? = some x_ := ⟨_, List.getElem?_eq_getElem (by omega)⟩
   have hcs1 := cntT_le l a1.2.1 j1
   refine sd_run 7 (sdT 34 ((j1 : Int) < (m : Int)) (by omega) kr (sd_run 11 (sd_ix 39 (.pointer (some ⟨0, 0 + j1 * 3, none⟩)) j1 m kr kr kr (by omega) (sd_run 1 (sd_ld 41 (.int .i64 a2.2.1) 3 (.pointer (some ⟨0, 0 + j1 * 3 + 1, none⟩)) kr kr kr (ld_cell (l := l) (e := 53) (ro := false) (k := j1) (j := 1) ivC_len kr kr kr ha2 rfl) (sd_run 3 ?_))))))
   rcases Bool.eq_false_or_eq_true (decide ((a2.2.1 : Int) ≤ a1.2.1)) with hc3 | hc3
   ·skip
    refine sd_see 44 (.bool true) (see_bool kr hc3) (sd_run 2 (sd_ix 47 (.pointer (some ⟨0, 0 + j1 * 3, none⟩)) j1 m kr kr kr (by omega) (sd_run 1 (sd_ld 49 (.int .i64 a2.2.2) 3 (.pointer (some ⟨0, 0 + j1 * 3 + 2, none⟩)) kr kr kr (ld_cell (l := l) (e := 53) (ro := false) (k := j1) (j := 2) ivC_len kr kr kr ha2 rfl) (sd_run 4 ?_)))))
    rcases Bool.eq_false_or_eq_true (decide ((a2.2.2 : Int) > a1.2.1)) with hc4 | hc4
    ·skip
     refine sd_see 53 (.bool true) (see_bool kr hc4) (sd_run 23 (sd_see 72 (.int .i64 (((cntT l a1.2.1 j1) + 1 : Nat) : Int)) (see_int (x := (IntKind.i64.wrap ((((cntT l a1.2.1 j1) : Nat) : Int) + 1))) kr (w64 (by omega) (by omega) (by omega))) (sd_run 7 (sd_see 36 (.int .i64 ((j1 + 1 : Nat) : Int)) (see_int (x := (IntKind.i64.wrap ((j1 : Int) + 1))) kr (w64 (by omega) (by omega) (by omega))) (sd_run 2 ?_)))))
     simp only [bd] at hc3 hc4
     have hat : liveAt a2 a1.2.1 = true := by unfold liveAt; simp only [Bool.or_eq_true, Bool.and_eq_true, decide_eq_true_eq]; omega
     refine sd_see 7 (.int .i64 (((cntT l a1.2.1 (j1 + 1)) : Nat) : Int)) (see_int (x := (((cntT l a1.2.1 j1) + 1 : Nat) : Int)) kr (by rw [cntT_succ ha2, hat]; simp)) ?_
     refine sd_inv R2_ kr (hR2_ _ (m - (j1 + 1)) _ e2_ (by omega) ⟨j1 + 1, rfl, (by omega), rfl⟩ ⟨sub_of kr kr ⟨ivC_b, brn, ⟨⟩⟩, te_of kr kr⟩ kr)
    ·skip
     refine sd_see 53 (.bool false) (see_bool kr hc4) (sd_run 2 (sd_ix 56 (.pointer (some ⟨0, 0 + j1 * 3, none⟩)) j1 m kr kr kr (by omega) (sd_run 1 (sd_ld 58 (.int .i64 a2.2.1) 3 (.pointer (some ⟨0, 0 + j1 * 3 + 1, none⟩)) kr kr kr (ld_cell (l := l) (e := 53) (ro := false) (k := j1) (j := 1) ivC_len kr kr kr ha2 rfl) (sd_run 3 ?_)))))
     rcases Bool.eq_false_or_eq_true ((a2.2.1 : Int) == a1.2.1) with hc5 | hc5
     ·skip
      refine sd_see 61 (.bool true) (see_bool kr hc5) (sd_run 2 (sd_ix 64 (.pointer (some ⟨0, 0 + j1 * 3, none⟩)) j1 m kr kr kr (by omega) (sd_run 1 (sd_ld 66 (.int .i64 a2.2.2) 3 (.pointer (some ⟨0, 0 + j1 * 3 + 2, none⟩)) kr kr kr (ld_cell (l := l) (e := 53) (ro := false) (k := j1) (j := 2) ivC_len kr kr kr ha2 rfl) (sd_run 6 ?_)))))
      rcases Bool.eq_false_or_eq_true ((a2.2.2 : Int) == a1.2.1) with hc6 | hc6
      ·skip
       refine sd_see 70 (.bool true) (see_bool kr hc6) (sd_run 4 (sd_see 72 (.int .i64 (((cntT l a1.2.1 j1) + 1 : Nat) : Int)) (see_int (x := (IntKind.i64.wrap ((((cntT l a1.2.1 j1) : Nat) : Int) + 1))) kr (w64 (by omega) (by omega) (by omega))) (sd_run 7 (sd_see 36 (.int .i64 ((j1 + 1 : Nat) : Int)) (see_int (x := (IntKind.i64.wrap ((j1 : Int) + 1))) kr (w64 (by omega) (by omega) (by omega))) (sd_run 2 ?_)))))
       simp only [bd] at hc3 hc4 hc5 hc6
       have hat : liveAt a2 a1.2.1 = true := by unfold liveAt; simp only [Bool.or_eq_true, Bool.and_eq_true, decide_eq_true_eq]; omega
       refine sd_see 7 (.int .i64 (((cntT l a1.2.1 (j1 + 1)) : Nat) : Int)) (see_int (x := (((cntT l a1.2.1 j1) + 1 : Nat) : Int)) kr (by rw [cntT_succ ha2, hat]; simp)) ?_
       refine sd_inv R2_ kr (hR2_ _ (m - (j1 + 1)) _ e2_ (by omega) ⟨j1 + 1, rfl, (by omega), rfl⟩ ⟨sub_of kr kr ⟨ivC_b, brn, ⟨⟩⟩, te_of kr kr⟩ kr)
      ·skip
       refine sd_see 70 (.bool false) (see_bool kr hc6) (sd_run 7 (sd_see 36 (.int .i64 ((j1 + 1 : Nat) : Int)) (see_int (x := (IntKind.i64.wrap ((j1 : Int) + 1))) kr (w64 (by omega) (by omega) (by omega))) (sd_run 2 ?_)))
       simp only [bd] at hc3 hc4 hc5 hc6
       have hat : liveAt a2 a1.2.1 = false := by unfold liveAt; simp only [Bool.or_eq_false_iff, Bool.and_eq_false_iff, decide_eq_false_iff_not]; omega
       refine sd_see 7 (.int .i64 (((cntT l a1.2.1 (j1 + 1)) : Nat) : Int)) (see_int (x := (((cntT l a1.2.1 j1) : Nat) : Int)) kr (by rw [cntT_succ ha2, hat]; simp)) ?_
       refine sd_inv R2_ kr (hR2_ _ (m - (j1 + 1)) _ e2_ (by omega) ⟨j1 + 1, rfl, (by omega), rfl⟩ ⟨sub_of kr kr ⟨ivC_b, brn, ⟨⟩⟩, te_of kr kr⟩ kr)
     ·skip
      refine sd_see 61 (.bool false) (see_bool kr hc5) (sd_run 18 (sd_see 36 (.int .i64 ((j1 + 1 : Nat) : Int)) (see_int (x := (IntKind.i64.wrap ((j1 : Int) + 1))) kr (w64 (by omega) (by omega) (by omega))) (sd_run 2 ?_)))
      simp only [bd] at hc3 hc4 hc5
      have hat : liveAt a2 a1.2.1 = false := by unfold liveAt; simp only [Bool.or_eq_false_iff, Bool.and_eq_false_iff, decide_eq_false_iff_not]; omega
      refine sd_see 7 (.int .i64 (((cntT l a1.2.1 (j1 + 1)) : Nat) : Int)) (see_int (x := (((cntT l a1.2.1 j1) : Nat) : Int)) kr (by rw [cntT_succ ha2, hat]; simp)) ?_
      refine sd_inv R2_ kr (hR2_ _ (m - (j1 + 1)) _ e2_ (by omega) ⟨j1 + 1, rfl, (by omega), rfl⟩ ⟨sub_of kr kr ⟨ivC_b, brn, ⟨⟩⟩, te_of kr kr⟩ kr)
   ·skip
    refine sd_see 44 (.bool false) (see_bool kr hc3) (sd_run 11 (sd_ix 56 (.pointer (some ⟨0, 0 + j1 * 3, none⟩)) j1 m kr kr kr (by omega) (sd_run 1 (sd_ld 58 (.int .i64 a2.2.1) 3 (.pointer (some ⟨0, 0 + j1 * 3 + 1, none⟩)) kr kr kr (ld_cell (l := l) (e := 53) (ro := false) (k := j1) (j := 1) ivC_len kr kr kr ha2 rfl) (sd_run 3 ?_)))))
    rcases Bool.eq_false_or_eq_true ((a2.2.1 : Int) == a1.2.1) with hc7 | hc7
    ·skip
     refine sd_see 61 (.bool true) (see_bool kr hc7) (sd_run 2 (sd_ix 64 (.pointer (some ⟨0, 0 + j1 * 3, none⟩)) j1 m kr kr kr (by omega) (sd_run 1 (sd_ld 66 (.int .i64 a2.2.2) 3 (.pointer (some ⟨0, 0 + j1 * 3 + 2, none⟩)) kr kr kr (ld_cell (l := l) (e := 53) (ro := false) (k := j1) (j := 2) ivC_len kr kr kr ha2 rfl) (sd_run 6 ?_)))))
     rcases Bool.eq_false_or_eq_true ((a2.2.2 : Int) == a1.2.1) with hc8 | hc8
     ·skip
      refine sd_see 70 (.bool true) (see_bool kr hc8) (sd_run 4 (sd_see 72 (.int .i64 (((cntT l a1.2.1 j1) + 1 : Nat) : Int)) (see_int (x := (IntKind.i64.wrap ((((cntT l a1.2.1 j1) : Nat) : Int) + 1))) kr (w64 (by omega) (by omega) (by omega))) (sd_run 7 (sd_see 36 (.int .i64 ((j1 + 1 : Nat) : Int)) (see_int (x := (IntKind.i64.wrap ((j1 : Int) + 1))) kr (w64 (by omega) (by omega) (by omega))) (sd_run 2 ?_)))))
      simp only [bd] at hc3 hc7 hc8
      have hat : liveAt a2 a1.2.1 = true := by unfold liveAt; simp only [Bool.or_eq_true, Bool.and_eq_true, decide_eq_true_eq]; omega
      refine sd_see 7 (.int .i64 (((cntT l a1.2.1 (j1 + 1)) : Nat) : Int)) (see_int (x := (((cntT l a1.2.1 j1) + 1 : Nat) : Int)) kr (by rw [cntT_succ ha2, hat]; simp)) ?_
      refine sd_inv R2_ kr (hR2_ _ (m - (j1 + 1)) _ e2_ (by omega) ⟨j1 + 1, rfl, (by omega), rfl⟩ ⟨sub_of kr kr ⟨ivC_b, brn, ⟨⟩⟩, te_of kr kr⟩ kr)
     ·skip
      refine sd_see 70 (.bool false) (see_bool kr hc8) (sd_run 7 (sd_see 36 (.int .i64 ((j1 + 1 : Nat) : Int)) (see_int (x := (IntKind.i64.wrap ((j1 : Int) + 1))) kr (w64 (by omega) (by omega) (by omega))) (sd_run 2 ?_)))
      simp only [bd] at hc3 hc7 hc8
      have hat : liveAt a2 a1.2.1 = false := by unfold liveAt; simp only [Bool.or_eq_false_iff, Bool.and_eq_false_iff, decide_eq_false_iff_not]; omega
      refine sd_see 7 (.int .i64 (((cntT l a1.2.1 (j1 + 1)) : Nat) : Int)) (see_int (x := (((cntT l a1.2.1 j1) : Nat) : Int)) kr (by rw [cntT_succ ha2, hat]; simp)) ?_
      refine sd_inv R2_ kr (hR2_ _ (m - (j1 + 1)) _ e2_ (by omega) ⟨j1 + 1, rfl, (by omega), rfl⟩ ⟨sub_of kr kr ⟨ivC_b, brn, ⟨⟩⟩, te_of kr kr⟩ kr)
    ·skip
     refine sd_see 61 (.bool false) (see_bool kr hc7) (sd_run 18 (sd_see 36 (.int .i64 ((j1 + 1 : Nat) : Int)) (see_int (x := (IntKind.i64.wrap ((j1 : Int) + 1))) kr (w64 (by omega) (by omega) (by omega))) (sd_run 2 ?_)))
     simp only [bd] at hc3 hc7
     have hat : liveAt a2 a1.2.1 = false := by unfold liveAt; simp only [Bool.or_eq_false_iff, Bool.and_eq_false_iff, decide_eq_false_iff_not]; omega
     refine sd_see 7 (.int .i64 (((cntT l a1.2.1 (j1 + 1)) : Nat) : Int)) (see_int (x := (((cntT l a1.2.1 j1) : Nat) : Int)) kr (by rw [cntT_succ ha2, hat]; simp)) ?_
     refine sd_inv R2_ kr (hR2_ _ (m - (j1 + 1)) _ e2_ (by omega) ⟨j1 + 1, rfl, (by omega), rfl⟩ ⟨sub_of kr kr ⟨ivC_b, brn, ⟨⟩⟩, te_of kr kr⟩ kr)
  ·skip
   have hca1 := cntAt_le l a1.2.1
   obtain rfl : m = j1 := by omega
   have hcx1 : cntT l a1.2.1 m = cntAt l a1.2.1 := by rw [hm]; exact cntT_all l _
   refine sd_see 7 (.int .i64 (((cntAt l a1.2.1) : Nat) : Int)) (see_int (x := (((cntT l a1.2.1 m) : Nat) : Int)) kr (by rw [hcx1])) ?_
   by_cases hgt1 : (cntAt l a1.2.1) > p
   ·skip
    refine sd_run 7 (sdF 34 ((m : Int) < (m : Int)) (by omega) kr (sd_run 13 (sd_see 75 (.bool true) (see_bool (x := (decide ((((cntAt l a1.2.1) : Nat) : Int) > (p : Int)))) kr (decide_eq_true (by omega))) (sd_run 45 ?_))))
    refine sd_loop 79 (cl (cl (cr (cl (cr (cr (cl (cl (cr (cr (cl (cl (cr (cl (cl (cr (cl (cl (cr (cl (cr (cr f15b)))))))))))))))))))))) [.blk 4, .next (cr (cr (cr (cl (cl (cr (cr (cl (cl (cr (cl (cl (cr (cl (cl (cr (cl (cr (cr f15b))))))))))))))))))), .blk 3, .next (cr (cr (cr (cl (cl (cr (cl (cl (cr (cl (cl (cr (cl (cr (cr f15b))))))))))))))), .loop (cl (cl (cr (cl (cl (cr (cl (cl (cr (cl (cr (cr f15b)))))))))))), .blk 2, .blk 1, .next (cr (cr (cl (cl (cr (cl (cr (cr f15b)))))))), .inv R1_, .blk 0, .next (cr (cr (cr f15b)))] kr kr kr (fun m9 s9 => ∃ (j2 : Nat), m9 = m - j2 ∧ (j2 ≤ m) ∧ s9 = ⟨tmL [(0, .slice (some ⟨0, 0, none⟩) m kc), (3, .int .i64 (((cntAt l a1.2.1) : Nat) : Int)), (4, .int .i64 (i : Int)), (6, .int .i64 a1.2.2), (7, .int .i64 (((cntT l a1.2.2 j2) : Nat) : Int)), (8, .int .i64 (j2 : Int)), (25, .slice (some ⟨1, 0, none⟩) 2 2), (26, .int .i64 2), (27, .int .i64 1)], hq [some ⟨(tab ivC l), 53, false⟩, some ⟨[Value.int .i64 a1.2.1, .int .i64 a1.2.2], 3, false⟩]⟩) (m - 0) _ e2_ hX ⟨0, rfl, (by omega), rfl⟩ ⟨sub_of kr kr ⟨ivC_b, brn, ⟨⟩⟩, te_of kr kr⟩ kr ?_
    rintro m9 s9 ⟨j2, rfl, i3_0, rfl⟩ R3_ hR3_
    by_cases hj2 : j2 < m
    ·skip
     obtain ⟨a9, ha9⟩ : ∃ x_, (l)[j2]? = some x_ := ⟨_, List.getElem?_eq_getElem (by omega)⟩
     have hcs2 := cntT_le l a1.2.2 j2
     refine sd_run 7 (sdT 34 ((j2 : Int) < (m : Int)) (by omega) kr (sd_run 11 (sd_ix 39 (.pointer (some ⟨0, 0 + j2 * 3, none⟩)) j2 m kr kr kr (by omega) (sd_run 1 (sd_ld 41 (.int .i64 a9.2.1) 3 (.pointer (some ⟨0, 0 + j2 * 3 + 1, none⟩)) kr kr kr (ld_cell (l := l) (e := 53) (ro := false) (k := j2) (j := 1) ivC_len kr kr kr ha9 rfl) (sd_run 3 ?_))))))
     rcases Bool.eq_false_or_eq_true (decide ((a9.2.1 : Int) ≤ a1.2.2)) with hc10 | hc10
     ·skip
      refine sd_see 44 (.bool true) (see_bool kr hc10) (sd_run 2 (sd_ix 47 (.pointer (some ⟨0, 0 + j2 * 3, none⟩)) j2 m kr kr kr (by omega) (sd_run 1 (sd_ld 49 (.int .i64 a9.2.2) 3 (.pointer (some ⟨0, 0 + j2 * 3 + 2, none⟩)) kr kr kr (ld_cell (l := l) (e := 53) (ro := false) (k := j2) (j := 2) ivC_len kr kr kr ha9 rfl) (sd_run 4 ?_)))))
      rcases Bool.eq_false_or_eq_true (decide ((a9.2.2 : Int) > a1.2.2)) with hc11 | hc11
      ·skip
       refine sd_see 53 (.bool true) (see_bool kr hc11) (sd_run 23 (sd_see 72 (.int .i64 (((cntT l a1.2.2 j2) + 1 : Nat) : Int)) (see_int (x := (IntKind.i64.wrap ((((cntT l a1.2.2 j2) : Nat) : Int) + 1))) kr (w64 (by omega) (by omega) (by omega))) (sd_run 7 (sd_see 36 (.int .i64 ((j2 + 1 : Nat) : Int)) (see_int (x := (IntKind.i64.wrap ((j2 : Int) + 1))) kr (w64 (by omega) (by omega) (by omega))) (sd_run 2 ?_)))))
       simp only [bd] at hc10 hc11
       have hat : liveAt a9 a1.2.2 = true := by unfold liveAt; simp only [Bool.or_eq_true, Bool.and_eq_true, decide_eq_true_eq]; omega
       refine sd_see 7 (.int .i64 (((cntT l a1.2.2 (j2 + 1)) : Nat) : Int)) (see_int (x := (((cntT l a1.2.2 j2) + 1 : Nat) : Int)) kr (by rw [cntT_succ ha9, hat]; simp)) ?_
       refine sd_inv R3_ kr (hR3_ _ (m - (j2 + 1)) _ e2_ (by omega) ⟨j2 + 1, rfl, (by omega), rfl⟩ ⟨sub_of kr kr ⟨ivC_b, brn, ⟨⟩⟩, te_of kr kr⟩ kr)
      ·skip
       refine sd_see 53 (.bool false) (see_bool kr hc11) (sd_run 2 (sd_ix 56 (.pointer (some ⟨0, 0 + j2 * 3, none⟩)) j2 m kr kr kr (by omega) (sd_run 1 (sd_ld 58 (.int .i64 a9.2.1) 3 (.pointer (some ⟨0, 0 + j2 * 3 + 1, none⟩)) kr kr kr (ld_cell (l := l) (e := 53) (ro := false) (k := j2) (j := 1) ivC_len kr kr kr ha9 rfl) (sd_run 3 ?_)))))
       rcases Bool.eq_false_or_eq_true ((a9.2.1 : Int) == a1.2.2) with hc12 | hc12
       ·skip
        refine sd_see 61 (.bool true) (see_bool kr hc12) (sd_run 2 (sd_ix 64 (.pointer (some ⟨0, 0 + j2 * 3, none⟩)) j2 m kr kr kr (by omega) (sd_run 1 (sd_ld 66 (.int .i64 a9.2.2) 3 (.pointer (some ⟨0, 0 + j2 * 3 + 2, none⟩)) kr kr kr (ld_cell (l := l) (e := 53) (ro := false) (k := j2) (j := 2) ivC_len kr kr kr ha9 rfl) (sd_run 6 ?_)))))
        rcases Bool.eq_false_or_eq_true ((a9.2.2 : Int) == a1.2.2) with hc13 | hc13
        ·skip
         refine sd_see 70 (.bool true) (see_bool kr hc13) (sd_run 4 (sd_see 72 (.int .i64 (((cntT l a1.2.2 j2) + 1 : Nat) : Int)) (see_int (x := (IntKind.i64.wrap ((((cntT l a1.2.2 j2) : Nat) : Int) + 1))) kr (w64 (by omega) (by omega) (by omega))) (sd_run 7 (sd_see 36 (.int .i64 ((j2 + 1 : Nat) : Int)) (see_int (x := (IntKind.i64.wrap ((j2 : Int) + 1))) kr (w64 (by omega) (by omega) (by omega))) (sd_run 2 ?_)))))
         simp only [bd] at hc10 hc11 hc12 hc13
         have hat : liveAt a9 a1.2.2 = true := by unfold liveAt; simp only [Bool.or_eq_true, Bool.and_eq_true, decide_eq_true_eq]; omega
         refine sd_see 7 (.int .i64 (((cntT l a1.2.2 (j2 + 1)) : Nat) : Int)) (see_int (x := (((cntT l a1.2.2 j2) + 1 : Nat) : Int)) kr (by rw [cntT_succ ha9, hat]; simp)) ?_
         refine sd_inv R3_ kr (hR3_ _ (m - (j2 + 1)) _ e2_ (by omega) ⟨j2 + 1, rfl, (by omega), rfl⟩ ⟨sub_of kr kr ⟨ivC_b, brn, ⟨⟩⟩, te_of kr kr⟩ kr)
        ·skip
         refine sd_see 70 (.bool false) (see_bool kr hc13) (sd_run 7 (sd_see 36 (.int .i64 ((j2 + 1 : Nat) : Int)) (see_int (x := (IntKind.i64.wrap ((j2 : Int) + 1))) kr (w64 (by omega) (by omega) (by omega))) (sd_run 2 ?_)))
         simp only [bd] at hc10 hc11 hc12 hc13
         have hat : liveAt a9 a1.2.2 = false := by unfold liveAt; simp only [Bool.or_eq_false_iff, Bool.and_eq_false_iff, decide_eq_false_iff_not]; omega
         refine sd_see 7 (.int .i64 (((cntT l a1.2.2 (j2 + 1)) : Nat) : Int)) (see_int (x := (((cntT l a1.2.2 j2) : Nat) : Int)) kr (by rw [cntT_succ ha9, hat]; simp)) ?_
         refine sd_inv R3_ kr (hR3_ _ (m - (j2 + 1)) _ e2_ (by omega) ⟨j2 + 1, rfl, (by omega), rfl⟩ ⟨sub_of kr kr ⟨ivC_b, brn, ⟨⟩⟩, te_of kr kr⟩ kr)
       ·skip
        refine sd_see 61 (.bool false) (see_bool kr hc12) (sd_run 18 (sd_see 36 (.int .i64 ((j2 + 1 : Nat) : Int)) (see_int (x := (IntKind.i64.wrap ((j2 : Int) + 1))) kr (w64 (by omega) (by omega) (by omega))) (sd_run 2 ?_)))
        simp only [bd] at hc10 hc11 hc12
        have hat : liveAt a9 a1.2.2 = false := by unfold liveAt; simp only [Bool.or_eq_false_iff, Bool.and_eq_false_iff, decide_eq_false_iff_not]; omega
        refine sd_see 7 (.int .i64 (((cntT l a1.2.2 (j2 + 1)) : Nat) : Int)) (see_int (x := (((cntT l a1.2.2 j2) : Nat) : Int)) kr (by rw [cntT_succ ha9, hat]; simp)) ?_
        refine sd_inv R3_ kr (hR3_ _ (m - (j2 + 1)) _ e2_ (by omega) ⟨j2 + 1, rfl, (by omega), rfl⟩ ⟨sub_of kr kr ⟨ivC_b, brn, ⟨⟩⟩, te_of kr kr⟩ kr)
     ·skip
      refine sd_see 44 (.bool false) (see_bool kr hc10) (sd_run 11 (sd_ix 56 (.pointer (some ⟨0, 0 + j2 * 3, none⟩)) j2 m kr kr kr (by omega) (sd_run 1 (sd_ld 58 (.int .i64 a9.2.1) 3 (.pointer (some ⟨0, 0 + j2 * 3 + 1, none⟩)) kr kr kr (ld_cell (l := l) (e := 53) (ro := false) (k := j2) (j := 1) ivC_len kr kr kr ha9 rfl) (sd_run 3 ?_)))))
      rcases Bool.eq_false_or_eq_true ((a9.2.1 : Int) == a1.2.2) with hc14 | hc14
      ·skip
       refine sd_see 61 (.bool true) (see_bool kr hc14) (sd_run 2 (sd_ix 64 (.pointer (some ⟨0, 0 + j2 * 3, none⟩)) j2 m kr kr kr (by omega) (sd_run 1 (sd_ld 66 (.int .i64 a9.2.2) 3 (.pointer (some ⟨0, 0 + j2 * 3 + 2, none⟩)) kr kr kr (ld_cell (l := l) (e := 53) (ro := false) (k := j2) (j := 2) ivC_len kr kr kr ha9 rfl) (sd_run 6 ?_)))))
       rcases Bool.eq_false_or_eq_true ((a9.2.2 : Int) == a1.2.2) with hc15 | hc15
       ·skip
        refine sd_see 70 (.bool true) (see_bool kr hc15) (sd_run 4 (sd_see 72 (.int .i64 (((cntT l a1.2.2 j2) + 1 : Nat) : Int)) (see_int (x := (IntKind.i64.wrap ((((cntT l a1.2.2 j2) : Nat) : Int) + 1))) kr (w64 (by omega) (by omega) (by omega))) (sd_run 7 (sd_see 36 (.int .i64 ((j2 + 1 : Nat) : Int)) (see_int (x := (IntKind.i64.wrap ((j2 : Int) + 1))) kr (w64 (by omega) (by omega) (by omega))) (sd_run 2 ?_)))))
        simp only [bd] at hc10 hc14 hc15
        have hat : liveAt a9 a1.2.2 = true := by unfold liveAt; simp only [Bool.or_eq_true, Bool.and_eq_true, decide_eq_true_eq]; omega
        refine sd_see 7 (.int .i64 (((cntT l a1.2.2 (j2 + 1)) : Nat) : Int)) (see_int (x := (((cntT l a1.2.2 j2) + 1 : Nat) : Int)) kr (by rw [cntT_succ ha9, hat]; simp)) ?_
        refine sd_inv R3_ kr (hR3_ _ (m - (j2 + 1)) _ e2_ (by omega) ⟨j2 + 1, rfl, (by omega), rfl⟩ ⟨sub_of kr kr ⟨ivC_b, brn, ⟨⟩⟩, te_of kr kr⟩ kr)
       ·skip
        refine sd_see 70 (.bool false) (see_bool kr hc15) (sd_run 7 (sd_see 36 (.int .i64 ((j2 + 1 : Nat) : Int)) (see_int (x := (IntKind.i64.wrap ((j2 : Int) + 1))) kr (w64 (by omega) (by omega) (by omega))) (sd_run 2 ?_)))
        simp only [bd] at hc10 hc14 hc15
        have hat : liveAt a9 a1.2.2 = false := by unfold liveAt; simp only [Bool.or_eq_false_iff, Bool.and_eq_false_iff, decide_eq_false_iff_not]; omega
        refine sd_see 7 (.int .i64 (((cntT l a1.2.2 (j2 + 1)) : Nat) : Int)) (see_int (x := (((cntT l a1.2.2 j2) : Nat) : Int)) kr (by rw [cntT_succ ha9, hat]; simp)) ?_
        refine sd_inv R3_ kr (hR3_ _ (m - (j2 + 1)) _ e2_ (by omega) ⟨j2 + 1, rfl, (by omega), rfl⟩ ⟨sub_of kr kr ⟨ivC_b, brn, ⟨⟩⟩, te_of kr kr⟩ kr)
      ·skip
       refine sd_see 61 (.bool false) (see_bool kr hc14) (sd_run 18 (sd_see 36 (.int .i64 ((j2 + 1 : Nat) : Int)) (see_int (x := (IntKind.i64.wrap ((j2 : Int) + 1))) kr (w64 (by omega) (by omega) (by omega))) (sd_run 2 ?_)))
       simp only [bd] at hc10 hc14
       have hat : liveAt a9 a1.2.2 = false := by unfold liveAt; simp only [Bool.or_eq_false_iff, Bool.and_eq_false_iff, decide_eq_false_iff_not]; omega
       refine sd_see 7 (.int .i64 (((cntT l a1.2.2 (j2 + 1)) : Nat) : Int)) (see_int (x := (((cntT l a1.2.2 j2) : Nat) : Int)) kr (by rw [cntT_succ ha9, hat]; simp)) ?_
       refine sd_inv R3_ kr (hR3_ _ (m - (j2 + 1)) _ e2_ (by omega) ⟨j2 + 1, rfl, (by omega), rfl⟩ ⟨sub_of kr kr ⟨ivC_b, brn, ⟨⟩⟩, te_of kr kr⟩ kr)
    ·skip
     have hca2 := cntAt_le l a1.2.2
     obtain rfl : m = j2 := by omega
     have hcx2 : cntT l a1.2.2 m = cntAt l a1.2.2 := by rw [hm]; exact cntT_all l _
     refine sd_see 7 (.int .i64 (((cntAt l a1.2.2) : Nat) : Int)) (see_int (x := (((cntT l a1.2.2 m) : Nat) : Int)) kr (by rw [hcx2])) ?_
     by_cases hgt2 : (cntAt l a1.2.2) > (cntAt l a1.2.1)
     ·skip
      refine sd_run 7 (sdF 34 ((m : Int) < (m : Int)) (by omega) kr (sd_run 13 (sd_see 75 (.bool true) (see_bool (x := (decide ((((cntAt l a1.2.2) : Nat) : Int) > (((cntAt l a1.2.1) : Nat) : Int)))) kr (decide_eq_true (by omega))) (sd_run 31 (sd_see 14 (.int .i64 ((i + 1 : Nat) : Int)) (see_int (x := (IntKind.i64.wrap ((i : Int) + 1))) kr (w64 (by omega) (by omega) (by omega))) (sd_run 2 ?_))))))
      have hq9 : cntAt l a1.2.1 ≤ (cntAt l a1.2.2) ∧ p ≤ (cntAt l a1.2.2) ∧ (cntAt l a1.2.2) ≤ l.length := by omega
      refine sd_inv R1_ kr (hR1_ _ (m - (i + 1)) _ e1_ (by omega) ⟨i + 1, (cntAt l a1.2.2), rfl, (by omega), hq9.2.2, (fun i9 a9 h1 h2 => by rcases Nat.lt_or_eq_of_le (Nat.le_of_lt_succ h1) with q | rfl; (have := i1_2 i9 a9 q h2; omega); (rw [ha1] at h2; cases h2; exact hq9.1)), rfl⟩ ⟨sub_of kr kr ⟨ivC_b, ⟨⟩⟩, te_of kr kr⟩ kr)
     ·skip
      refine sd_run 7 (sdF 34 ((m : Int) < (m : Int)) (by omega) kr (sd_run 13 (sd_see 75 (.bool false) (see_bool (x := (decide ((((cntAt l a1.2.2) : Nat) : Int) > (((cntAt l a1.2.1) : Nat) : Int)))) kr (decide_eq_false (by omega))) (sd_run 28 (sd_see 14 (.int .i64 ((i + 1 : Nat) : Int)) (see_int (x := (IntKind.i64.wrap ((i : Int) + 1))) kr (w64 (by omega) (by omega) (by omega))) (sd_run 2 ?_))))))
      have hq9 : cntAt l a1.2.1 ≤ (cntAt l a1.2.1) ∧ p ≤ (cntAt l a1.2.1) ∧ (cntAt l a1.2.1) ≤ l.length := by omega
      refine sd_inv R1_ kr (hR1_ _ (m - (i + 1)) _ e1_ (by omega) ⟨i + 1, (cntAt l a1.2.1), rfl, (by omega), hq9.2.2, (fun i9 a9 h1 h2 => by rcases Nat.lt_or_eq_of_le (Nat.le_of_lt_succ h1) with q | rfl; (have := i1_2 i9 a9 q h2; omega); (rw [ha1] at h2; cases h2; exact hq9.1)), rfl⟩ ⟨sub_of kr kr ⟨ivC_b, ⟨⟩⟩, te_of kr kr⟩ kr)
   ·skip
    refine sd_run 7 (sdF 34 ((m : Int) < (m : Int)) (by omega) kr (sd_run 13 (sd_see 75 (.bool false) (see_bool (x := (decide ((((cntAt l a1.2.1) : Nat) : Int) > (p : Int)))) kr (decide_eq_false (by omega))) (sd_run 42 ?_))))
    refine sd_loop 79 (cl (cl (cr (cl (cr (cr (cl (cl (cr (cr (cl (cl (cr (cl (cl (cr (cl (cl (cr (cl (cr (cr f15b)))))))))))))))))))))) [.blk 4, .next (cr (cr (cr (cl (cl (cr (cr (cl (cl (cr (cl (cl (cr (cl (cl (cr (cl (cr (cr f15b))))))))))))))))))), .blk 3, .next (cr (cr (cr (cl (cl (cr (cl (cl (cr (cl (cl (cr (cl (cr (cr f15b))))))))))))))), .loop (cl (cl (cr (cl (cl (cr (cl (cl (cr (cl (cr (cr f15b)))))))))))), .blk 2, .blk 1, .next (cr (cr (cl (cl (cr (cl (cr (cr f15b)))))))), .inv R1_, .blk 0, .next (cr (cr (cr f15b)))] kr kr kr (fun m9 s9 => ∃ (j2 : Nat), m9 = m - j2 ∧ (j2 ≤ m) ∧ s9 = ⟨tmL [(0, .slice (some ⟨0, 0, none⟩) m kc), (3, .int .i64 (p : Int)), (4, .int .i64 (i : Int)), (6, .int .i64 a1.2.2), (7, .int .i64 (((cntT l a1.2.2 j2) : Nat) : Int)), (8, .int .i64 (j2 : Int)), (25, .slice (some ⟨1, 0, none⟩) 2 2), (26, .int .i64 2), (27, .int .i64 1)], hq [some ⟨(tab ivC l), 53, false⟩, some ⟨[Value.int .i64 a1.2.1, .int .i64 a1.2.2], 3, false⟩]⟩) (m - 0) _ e2_ hX ⟨0, rfl, (by omega), rfl⟩ ⟨sub_of kr kr ⟨ivC_b, brn, ⟨⟩⟩, te_of kr kr⟩ kr ?_
    rintro m9 s9 ⟨j2, rfl, i4_0, rfl⟩ R4_ hR4_
    by_cases hj2 : j2 < m
    ·skip
     obtain ⟨a16, ha16⟩ : ∃ x_, (l)[j2]? = some x_ := ⟨_, List.getElem?_eq_getElem (by omega)⟩
     have hcs2 := cntT_le l a1.2.2 j2
     refine sd_run 7 (sdT 34 ((j2 : Int) < (m : Int)) (by omega) kr (sd_run 11 (sd_ix 39 (.pointer (some ⟨0, 0 + j2 * 3, none⟩)) j2 m kr kr kr (by omega) (sd_run 1 (sd_ld 41 (.int .i64 a16.2.1) 3 (.pointer (some ⟨0, 0 + j2 * 3 + 1, none⟩)) kr kr kr (ld_cell (l := l) (e := 53) (ro := false) (k := j2) (j := 1) ivC_len kr kr kr ha16 rfl) (sd_run 3 ?_))))))
     rcases Bool.eq_false_or_eq_true (decide ((a16.2.1 : Int) ≤ a1.2.2)) with hc17 | hc17
     ·skip
      refine sd_see 44 (.bool true) (see_bool kr hc17) (sd_run 2 (sd_ix 47 (.pointer (some ⟨0, 0 + j2 * 3, none⟩)) j2 m kr kr kr (by omega) (sd_run 1 (sd_ld 49 (.int .i64 a16.2.2) 3 (.pointer (some ⟨0, 0 + j2 * 3 + 2, none⟩)) kr kr kr (ld_cell (l := l) (e := 53) (ro := false) (k := j2) (j := 2) ivC_len kr kr kr ha16 rfl) (sd_run 4 ?_)))))
      rcases Bool.eq_false_or_eq_true (decide ((a16.2.2 : Int) > a1.2.2)) with hc18 | hc18
      ·skip
       refine sd_see 53 (.bool true) (see_bool kr hc18) (sd_run 23 (sd_see 72 (.int .i64 (((cntT l a1.2.2 j2) + 1 : Nat) : Int)) (see_int (x := (IntKind.i64.wrap ((((cntT l a1.2.2 j2) : Nat) : Int) + 1))) kr (w64 (by omega) (by omega) (by omega))) (sd_run 7 (sd_see 36 (.int .i64 ((j2 + 1 : Nat) : Int)) (see_int (x := (IntKind.i64.wrap ((j2 : Int) + 1))) kr (w64 (by omega) (by omega) (by omega))) (sd_run 2 ?_)))))
       simp only [bd] at hc17 hc18
       have hat : liveAt a16 a1.2.2 = true := by unfold liveAt; simp only [Bool.or_eq_true, Bool.and_eq_true, decide_eq_true_eq]; omega
       refine sd_see 7 (.int .i64 (((cntT l a1.2.2 (j2 + 1)) : Nat) : Int)) (see_int (x := (((cntT l a1.2.2 j2) + 1 : Nat) : Int)) kr (by rw [cntT_succ ha16, hat]; simp)) ?_
       refine sd_inv R4_ kr (hR4_ _ (m - (j2 + 1)) _ e2_ (by omega) ⟨j2 + 1, rfl, (by omega), rfl⟩ ⟨sub_of kr kr ⟨ivC_b, brn, ⟨⟩⟩, te_of kr kr⟩ kr)
      ·skip
       refine sd_see 53 (.bool false) (see_bool kr hc18) (sd_run 2 (sd_ix 56 (.pointer (some ⟨0, 0 + j2 * 3, none⟩)) j2 m kr kr kr (by omega) (sd_run 1 (sd_ld 58 (.int .i64 a16.2.1) 3 (.pointer (some ⟨0, 0 + j2 * 3 + 1, none⟩)) kr kr kr (ld_cell (l := l) (e := 53) (ro := false) (k := j2) (j := 1) ivC_len kr kr kr ha16 rfl) (sd_run 3 ?_)))))
       rcases Bool.eq_false_or_eq_true ((a16.2.1 : Int) == a1.2.2) with hc19 | hc19
       ·skip
        refine sd_see 61 (.bool true) (see_bool kr hc19) (sd_run 2 (sd_ix 64 (.pointer (some ⟨0, 0 + j2 * 3, none⟩)) j2 m kr kr kr (by omega) (sd_run 1 (sd_ld 66 (.int .i64 a16.2.2) 3 (.pointer (some ⟨0, 0 + j2 * 3 + 2, none⟩)) kr kr kr (ld_cell (l := l) (e := 53) (ro := false) (k := j2) (j := 2) ivC_len kr kr kr ha16 rfl) (sd_run 6 ?_)))))
        rcases Bool.eq_false_or_eq_true ((a16.2.2 : Int) == a1.2.2) with hc20 | hc20
        ·skip
         refine sd_see 70 (.bool true) (see_bool kr hc20) (sd_run 4 (sd_see 72 (.int .i64 (((cntT l a1.2.2 j2) + 1 : Nat) : Int)) (see_int (x := (IntKind.i64.wrap ((((cntT l a1.2.2 j2) : Nat) : Int) + 1))) kr (w64 (by omega) (by omega) (by omega))) (sd_run 7 (sd_see 36 (.int .i64 ((j2 + 1 : Nat) : Int)) (see_int (x := (IntKind.i64.wrap ((j2 : Int) + 1))) kr (w64 (by omega) (by omega) (by omega))) (sd_run 2 ?_)))))
         simp only [bd] at hc17 hc18 hc19 hc20
         have hat : liveAt a16 a1.2.2 = true := by unfold liveAt; simp only [Bool.or_eq_true, Bool.and_eq_true, decide_eq_true_eq]; omega
         refine sd_see 7 (.int .i64 (((cntT l a1.2.2 (j2 + 1)) : Nat) : Int)) (see_int (x := (((cntT l a1.2.2 j2) + 1 : Nat) : Int)) kr (by rw [cntT_succ ha16, hat]; simp)) ?_
         refine sd_inv R4_ kr (hR4_ _ (m - (j2 + 1)) _ e2_ (by omega) ⟨j2 + 1, rfl, (by omega), rfl⟩ ⟨sub_of kr kr ⟨ivC_b, brn, ⟨⟩⟩, te_of kr kr⟩ kr)
        ·skip
         refine sd_see 70 (.bool false) (see_bool kr hc20) (sd_run 7 (sd_see 36 (.int .i64 ((j2 + 1 : Nat) : Int)) (see_int (x := (IntKind.i64.wrap ((j2 : Int) + 1))) kr (w64 (by omega) (by omega) (by omega))) (sd_run 2 ?_)))
         simp only [bd] at hc17 hc18 hc19 hc20
         have hat : liveAt a16 a1.2.2 = false := by unfold liveAt; simp only [Bool.or_eq_false_iff, Bool.and_eq_false_iff, decide_eq_false_iff_not]; omega
         refine sd_see 7 (.int .i64 (((cntT l a1.2.2 (j2 + 1)) : Nat) : Int)) (see_int (x := (((cntT l a1.2.2 j2) : Nat) : Int)) kr (by rw [cntT_succ ha16, hat]; simp)) ?_
         refine sd_inv R4_ kr (hR4_ _ (m - (j2 + 1)) _ e2_ (by omega) ⟨j2 + 1, rfl, (by omega), rfl⟩ ⟨sub_of kr kr ⟨ivC_b, brn, ⟨⟩⟩, te_of kr kr⟩ kr)
       ·skip
        refine sd_see 61 (.bool false) (see_bool kr hc19) (sd_run 18 (sd_see 36 (.int .i64 ((j2 + 1 : Nat) : Int)) (see_int (x := (IntKind.i64.wrap ((j2 : Int) + 1))) kr (w64 (by omega) (by omega) (by omega))) (sd_run 2 ?_)))
        simp only [bd] at hc17 hc18 hc19
        have hat : liveAt a16 a1.2.2 = false := by unfold liveAt; simp only [Bool.or_eq_false_iff, Bool.and_eq_false_iff, decide_eq_false_iff_not]; omega
        refine sd_see 7 (.int .i64 (((cntT l a1.2.2 (j2 + 1)) : Nat) : Int)) (see_int (x := (((cntT l a1.2.2 j2) : Nat) : Int)) kr (by rw [cntT_succ ha16, hat]; simp)) ?_
        refine sd_inv R4_ kr (hR4_ _ (m - (j2 + 1)) _ e2_ (by omega) ⟨j2 + 1, rfl, (by omega), rfl⟩ ⟨sub_of kr kr ⟨ivC_b, brn, ⟨⟩⟩, te_of kr kr⟩ kr)
     ·skip
      refine sd_see 44 (.bool false) (see_bool kr hc17) (sd_run 11 (sd_ix 56 (.pointer (some ⟨0, 0 + j2 * 3, none⟩)) j2 m kr kr kr (by omega) (sd_run 1 (sd_ld 58 (.int .i64 a16.2.1) 3 (.pointer (some ⟨0, 0 + j2 * 3 + 1, none⟩)) kr kr kr (ld_cell (l := l) (e := 53) (ro := false) (k := j2) (j := 1) ivC_len kr kr kr ha16 rfl) (sd_run 3 ?_)))))
      rcases Bool.eq_false_or_eq_true ((a16.2.1 : Int) == a1.2.2) with hc21 | hc21
      ·skip
       refine sd_see 61 (.bool true) (see_bool kr hc21) (sd_run 2 (sd_ix 64 (.pointer (some ⟨0, 0 + j2 * 3, none⟩)) j2 m kr kr kr (by omega) (sd_run 1 (sd_ld 66 (.int .i64 a16.2.2) 3 (.pointer (some ⟨0, 0 + j2 * 3 + 2, none⟩)) kr kr kr (ld_cell (l := l) (e := 53) (ro := false) (k := j2) (j := 2) ivC_len kr kr kr ha16 rfl) (sd_run 6 ?_)))))
       rcases Bool.eq_false_or_eq_true ((a16.2.2 : Int) == a1.2.2) with hc22 | hc22
       ·skip
        refine sd_see 70 (.bool true) (see_bool kr hc22) (sd_run 4 (sd_see 72 (.int .i64 (((cntT l a1.2.2 j2) + 1 : Nat) : Int)) (see_int (x := (IntKind.i64.wrap ((((cntT l a1.2.2 j2) : Nat) : Int) + 1))) kr (w64 (by omega) (by omega) (by omega))) (sd_run 7 (sd_see 36 (.int .i64 ((j2 + 1 : Nat) : Int)) (see_int (x := (IntKind.i64.wrap ((j2 : Int) + 1))) kr (w64 (by omega) (by omega) (by omega))) (sd_run 2 ?_)))))
        simp only [bd] at hc17 hc21 hc22
        have hat : liveAt a16 a1.2.2 = true := by unfold liveAt; simp only [Bool.or_eq_true, Bool.and_eq_true, decide_eq_true_eq]; omega
        refine sd_see 7 (.int .i64 (((cntT l a1.2.2 (j2 + 1)) : Nat) : Int)) (see_int (x := (((cntT l a1.2.2 j2) + 1 : Nat) : Int)) kr (by rw [cntT_succ ha16, hat]; simp)) ?_
        refine sd_inv R4_ kr (hR4_ _ (m - (j2 + 1)) _ e2_ (by omega) ⟨j2 + 1, rfl, (by omega), rfl⟩ ⟨sub_of kr kr ⟨ivC_b, brn, ⟨⟩⟩, te_of kr kr⟩ kr)
       ·skip
        refine sd_see 70 (.bool false) (see_bool kr hc22) (sd_run 7 (sd_see 36 (.int .i64 ((j2 + 1 : Nat) : Int)) (see_int (x := (IntKind.i64.wrap ((j2 : Int) + 1))) kr (w64 (by omega) (by omega) (by omega))) (sd_run 2 ?_)))
        simp only [bd] at hc17 hc21 hc22
        have hat : liveAt a16 a1.2.2 = false := by unfold liveAt; simp only [Bool.or_eq_false_iff, Bool.and_eq_false_iff, decide_eq_false_iff_not]; omega
        refine sd_see 7 (.int .i64 (((cntT l a1.2.2 (j2 + 1)) : Nat) : Int)) (see_int (x := (((cntT l a1.2.2 j2) : Nat) : Int)) kr (by rw [cntT_succ ha16, hat]; simp)) ?_
        refine sd_inv R4_ kr (hR4_ _ (m - (j2 + 1)) _ e2_ (by omega) ⟨j2 + 1, rfl, (by omega), rfl⟩ ⟨sub_of kr kr ⟨ivC_b, brn, ⟨⟩⟩, te_of kr kr⟩ kr)
      ·skip
       refine sd_see 61 (.bool false) (see_bool kr hc21) (sd_run 18 (sd_see 36 (.int .i64 ((j2 + 1 : Nat) : Int)) (see_int (x := (IntKind.i64.wrap ((j2 : Int) + 1))) kr (w64 (by omega) (by omega) (by omega))) (sd_run 2 ?_)))
       simp only [bd] at hc17 hc21
       have hat : liveAt a16 a1.2.2 = false := by unfold liveAt; simp only [Bool.or_eq_false_iff, Bool.and_eq_false_iff, decide_eq_false_iff_not]; omega
       refine sd_see 7 (.int .i64 (((cntT l a1.2.2 (j2 + 1)) : Nat) : Int)) (see_int (x := (((cntT l a1.2.2 j2) : Nat) : Int)) kr (by rw [cntT_succ ha16, hat]; simp)) ?_
       refine sd_inv R4_ kr (hR4_ _ (m - (j2 + 1)) _ e2_ (by omega) ⟨j2 + 1, rfl, (by omega), rfl⟩ ⟨sub_of kr kr ⟨ivC_b, brn, ⟨⟩⟩, te_of kr kr⟩ kr)
    ·skip
     have hca2 := cntAt_le l a1.2.2
     obtain rfl : m = j2 := by omega
     have hcx2 : cntT l a1.2.2 m = cntAt l a1.2.2 := by rw [hm]; exact cntT_all l _
     refine sd_see 7 (.int .i64 (((cntAt l a1.2.2) : Nat) : Int)) (see_int (x := (((cntT l a1.2.2 m) : Nat) : Int)) kr (by rw [hcx2])) ?_
     by_cases hgt2 : (cntAt l a1.2.2) > p
     ·skip
      refine sd_run 7 (sdF 34 ((m : Int) < (m : Int)) (by omega) kr (sd_run 13 (sd_see 75 (.bool true) (see_bool (x := (decide ((((cntAt l a1.2.2) : Nat) : Int) > (p : Int)))) kr (decide_eq_true (by omega))) (sd_run 31 (sd_see 14 (.int .i64 ((i + 1 : Nat) : Int)) (see_int (x := (IntKind.i64.wrap ((i : Int) + 1))) kr (w64 (by omega) (by omega) (by omega))) (sd_run 2 ?_))))))
      have hq9 : cntAt l a1.2.1 ≤ (cntAt l a1.2.2) ∧ p ≤ (cntAt l a1.2.2) ∧ (cntAt l a1.2.2) ≤ l.length := by omega
      refine sd_inv R1_ kr (hR1_ _ (m - (i + 1)) _ e1_ (by omega) ⟨i + 1, (cntAt l a1.2.2), rfl, (by omega), hq9.2.2, (fun i9 a9 h1 h2 => by rcases Nat.lt_or_eq_of_le (Nat.le_of_lt_succ h1) with q | rfl; (have := i1_2 i9 a9 q h2; omega); (rw [ha1] at h2; cases h2; exact hq9.1)), rfl⟩ ⟨sub_of kr kr ⟨ivC_b, ⟨⟩⟩, te_of kr kr⟩ kr)
     ·skip
      refine sd_run 7 (sdF 34 ((m : Int) < (m : Int)) (by omega) kr (sd_run 13 (sd_see 75 (.bool false) (see_bool (x := (decide ((((cntAt l a1.2.2) : Nat) : Int) > (p : Int)))) kr (decide_eq_false (by omega))) (sd_run 28 (sd_see 14 (.int .i64 ((i + 1 : Nat) : Int)) (see_int (x := (IntKind.i64.wrap ((i : Int) + 1))) kr (w64 (by omega) (by omega) (by omega))) (sd_run 2 ?_))))))
      have hq9 : cntAt l a1.2.1 ≤ p ∧ p ≤ p ∧ p ≤ l.length := by omega
      refine sd_inv R1_ kr (hR1_ _ (m - (i + 1)) _ e1_ (by omega) ⟨i + 1, p, rfl, (by omega), hq9.2.2, (fun i9 a9 h1 h2 => by rcases Nat.lt_or_eq_of_le (Nat.le_of_lt_succ h1) with q | rfl; (have := i1_2 i9 a9 q h2; omega); (rw [ha1] at h2; cases h2; exact hq9.1)), rfl⟩ ⟨sub_of kr kr ⟨ivC_b, ⟨⟩⟩, te_of kr kr⟩ kr)
 ·skip
  obtain rfl : m = i := by omega
  refine sd_run 7 (sdF 12 ((m : Int) < (m : Int)) (by omega) kr (sd_run 15 ?_))
  refine sdY (.int .i64 (p : Int)) hX [some ⟨(tab ivC l), 53, false⟩] i1_ ⟨ivC_b, ⟨⟩⟩ ⟨p, (fun i9 a9 h => i1_2 i9 a9 (by have := (List.getElem?_eq_some_iff.1 h).1; omega) h), (by omega), rfl, rfl⟩
end Ls
end Go.Proofs.Ytegjicaoemhhlaa
