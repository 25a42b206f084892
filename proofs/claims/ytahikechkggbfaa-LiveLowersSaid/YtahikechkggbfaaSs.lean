/- Chapter 20: how many press. -/
import Derived.Test.YtahikechkggbfaaSr
namespace Go.Proofs.Ytahikechkggbfaa
open Go Go.Ev Go.RowKit
set_option linter.unusedVariables false
set_option linter.unusedSimpArgs false
set_option maxRecDepth 100000
namespace Ls
def atB (i : IV) (x : Int) : Bool := (decide (i.2.1 ≤ x) && decide (i.2.2 > x)) || (decide (i.2.1 = x) && decide (i.2.2 = x))
/-- How many live at a place. -/
def cntL (l : List IV) (x : Int) : Nat := (l.filter fun b => atB b x).length
/-- The most that live where one begins. -/
def pressL (l : List IV) (m : List IV) : Nat := m.foldl (fun n a => max n (cntL l a.2.1)) 0
theorem cntL_le (l : List IV) (x : Int) : cntL l x ≤ l.length := List.length_filter_le _ _
theorem cntL_succ {l : List IV} {j : Nat} {b : IV} {x : Int} (h : l[j]? = some b) : cntL (l.take (j + 1)) x = cntL (l.take j) x + (if atB b x = true then 1 else 0) := by
  unfold cntL
  rw [List.take_add_one, h, List.filter_append, List.length_append]
  cases hb : atB b x <;> simp [hb]
theorem pressL_succ {l m : List IV} {j : Nat} {a : IV} (h : m[j]? = some a) : pressL l (m.take (j + 1)) = max (pressL l (m.take j)) (cntL l a.2.1) := by unfold pressL; rw [List.take_add_one, h]; simp
theorem pressL_le (l : List IV) (m : List IV) : pressL l m ≤ l.length := by
  have : ∀ (m : List IV) (n : Nat), n ≤ l.length → m.foldl (fun n a => max n (cntL l a.2.1)) n ≤ l.length := by
    intro m
    induction m with
    | nil => intro n h; exact h
    | cons a m ih => intro n h; exact ih _ (Nat.max_le.2 ⟨h, cntL_le _ _⟩)
  exact this m 0 (Nat.zero_le _)
noncomputable def f22b : Code := Try.f22.body.getD .skip
theorem f22_body : Try.f22.body = some f22b := by kernel_rfl
theorem f22_fn : T8.fn 22 = some Try.f22 := by kernel_rfl
theorem at_s {vi a b x : Int}  : SCall Try.prog T8 22 #[.agg #[.int .i64 vi, .int .i64 a, .int .i64 b], .int .i64 x] (hq []) fun v h => v = .bool (atB (vi, a, b) x) ∧ h = hq [] := by
  refine scall_sd 27 _ 0 kr f22_fn f22_body rfl rfl rfl fun X hX => ?_
  refine sd_run 13 ?_
  rcases Bool.eq_false_or_eq_true ((decide ((a : Int) ≤ x))) with hc1 | hc1
  · skip
    refine sd_see 9 (.bool true) (see_bool kr hc1) ?_
    refine sd_run 6 ?_
    rcases Bool.eq_false_or_eq_true ((decide ((b : Int) > x))) with hc2 | hc2
    · skip
      refine sd_see 15 (.bool true) (see_bool kr hc2) ?_
      refine sd_run 15 ?_
      simp only [decide_eq_true_eq, decide_eq_false_iff_not, beq_iff_eq, beq_eq_false_iff_ne, bne_iff_ne, bne_eq_false_iff_eq, ne_eq, Bool.not_eq_true, Bool.not_eq_false, Bool.not_not, gt_iff_lt, ge_iff_le, Int.not_le, Int.not_lt] at hc1 hc2
      refine sd_end (.bool true) hX kr kr kr (.bool true) (hq []) (emOf []) (sub_of kr kr True.intro) (rn2_sound _ _ kr) ⟨(by congr 1; unfold atB; rw [Bool.eq_iff_iff]; simp; try omega), rfl⟩
    · skip
      refine sd_see 15 (.bool false) (see_bool kr hc2) ?_
      refine sd_run 5 ?_
      rcases Bool.eq_false_or_eq_true (((a : Int) == x)) with hc3 | hc3
      · skip
        refine sd_see 20 (.bool true) (see_bool kr hc3) ?_
        refine sd_run 10 ?_
        rcases Bool.eq_false_or_eq_true (((b : Int) == x)) with hc4 | hc4
        · skip
          refine sd_see 4 (.bool true) (see_bool kr hc4) ?_
          simp only [decide_eq_true_eq, decide_eq_false_iff_not, beq_iff_eq, beq_eq_false_iff_ne, bne_iff_ne, bne_eq_false_iff_eq, ne_eq, Bool.not_eq_true, Bool.not_eq_false, Bool.not_not, gt_iff_lt, ge_iff_le, Int.not_le, Int.not_lt] at hc1 hc2 hc3 hc4
          refine sd_end (.bool true) hX kr kr kr (.bool true) (hq []) (emOf []) (sub_of kr kr True.intro) (rn2_sound _ _ kr) ⟨(by congr 1; unfold atB; rw [Bool.eq_iff_iff]; simp; try omega), rfl⟩
        · skip
          refine sd_see 4 (.bool false) (see_bool kr hc4) ?_
          simp only [decide_eq_true_eq, decide_eq_false_iff_not, beq_iff_eq, beq_eq_false_iff_ne, bne_iff_ne, bne_eq_false_iff_eq, ne_eq, Bool.not_eq_true, Bool.not_eq_false, Bool.not_not, gt_iff_lt, ge_iff_le, Int.not_le, Int.not_lt] at hc1 hc2 hc3 hc4
          refine sd_end (.bool false) hX kr kr kr (.bool false) (hq []) (emOf []) (sub_of kr kr True.intro) (rn2_sound _ _ kr) ⟨(by congr 1; unfold atB; rw [Bool.eq_iff_iff]; simp; try omega), rfl⟩
      · skip
        refine sd_see 20 (.bool false) (see_bool kr hc3) ?_
        refine sd_run 10 ?_
        simp only [decide_eq_true_eq, decide_eq_false_iff_not, beq_iff_eq, beq_eq_false_iff_ne, bne_iff_ne, bne_eq_false_iff_eq, ne_eq, Bool.not_eq_true, Bool.not_eq_false, Bool.not_not, gt_iff_lt, ge_iff_le, Int.not_le, Int.not_lt] at hc1 hc2 hc3
        refine sd_end (.bool false) hX kr kr kr (.bool false) (hq []) (emOf []) (sub_of kr kr True.intro) (rn2_sound _ _ kr) ⟨(by congr 1; unfold atB; rw [Bool.eq_iff_iff]; simp; try omega), rfl⟩
  · skip
    refine sd_see 9 (.bool false) (see_bool kr hc1) ?_
    refine sd_run 11 ?_
    rcases Bool.eq_false_or_eq_true (((a : Int) == x)) with hc5 | hc5
    · skip
      refine sd_see 20 (.bool true) (see_bool kr hc5) ?_
      refine sd_run 10 ?_
      rcases Bool.eq_false_or_eq_true (((b : Int) == x)) with hc6 | hc6
      · skip
        refine sd_see 4 (.bool true) (see_bool kr hc6) ?_
        simp only [decide_eq_true_eq, decide_eq_false_iff_not, beq_iff_eq, beq_eq_false_iff_ne, bne_iff_ne, bne_eq_false_iff_eq, ne_eq, Bool.not_eq_true, Bool.not_eq_false, Bool.not_not, gt_iff_lt, ge_iff_le, Int.not_le, Int.not_lt] at hc1 hc5 hc6
        refine sd_end (.bool true) hX kr kr kr (.bool true) (hq []) (emOf []) (sub_of kr kr True.intro) (rn2_sound _ _ kr) ⟨(by congr 1; unfold atB; rw [Bool.eq_iff_iff]; simp; try omega), rfl⟩
      · skip
        refine sd_see 4 (.bool false) (see_bool kr hc6) ?_
        simp only [decide_eq_true_eq, decide_eq_false_iff_not, beq_iff_eq, beq_eq_false_iff_ne, bne_iff_ne, bne_eq_false_iff_eq, ne_eq, Bool.not_eq_true, Bool.not_eq_false, Bool.not_not, gt_iff_lt, ge_iff_le, Int.not_le, Int.not_lt] at hc1 hc5 hc6
        refine sd_end (.bool false) hX kr kr kr (.bool false) (hq []) (emOf []) (sub_of kr kr True.intro) (rn2_sound _ _ kr) ⟨(by congr 1; unfold atB; rw [Bool.eq_iff_iff]; simp; try omega), rfl⟩
    · skip
      refine sd_see 20 (.bool false) (see_bool kr hc5) ?_
      refine sd_run 10 ?_
      simp only [decide_eq_true_eq, decide_eq_false_iff_not, beq_iff_eq, beq_eq_false_iff_ne, bne_iff_ne, bne_eq_false_iff_eq, ne_eq, Bool.not_eq_true, Bool.not_eq_false, Bool.not_not, gt_iff_lt, ge_iff_le, Int.not_le, Int.not_lt] at hc1 hc5
      refine sd_end (.bool false) hX kr kr kr (.bool false) (hq []) (emOf []) (sub_of kr kr True.intro) (rn2_sound _ _ kr) ⟨(by congr 1; unfold atB; rw [Bool.eq_iff_iff]; simp; try omega), rfl⟩
noncomputable def f15b : Code := Try.f15.body.getD .skip
theorem f15_body : Try.f15.body = some f15b := by kernel_rfl
theorem f15_fn : T8.fn 15 = some Try.f15 := by kernel_rfl
theorem press_s {l : List IV} {kc : Nat} (hl : l.length < 100000) : SCall Try.prog T8 15 #[.slice (some ⟨0, 0, none⟩) l.length kc] (hq [some ⟨(tab ivC l), 40, false⟩]) fun v h => v = .int .i64 (((pressL l l) : Nat) : Int) ∧ h = hq [some ⟨(tab ivC l), 40, false⟩] := by
  refine scall_sd 33 _ 1 kr f15_fn f15_body rfl rfl rfl fun X hX => ?_
  refine sd_run 19 ?_
  refine sd_loop 33 (cl (cl (cr (cl (cr (cr f15b)))))) [.blk 0, .next (cr (cr (cr f15b)))] kr kr kr (fun m9 s9 => ∃ (i : Nat), m9 = l.length - i ∧ (i ≤ l.length) ∧ s9 = ⟨tmL [(0, .slice (some ⟨0, 0, none⟩) l.length kc), (3, .int .i64 (((pressL l (l.take i)) : Nat) : Int)), (9, .slice (some ⟨0, 0, none⟩) l.length kc), (10, .int .i64 ((l.length : Nat) : Int)), (11, .int .i64 ((i : Nat) : Int))], hq [some ⟨(tab ivC l), 40, false⟩]⟩) (l.length - 0) _ (emOf [some 0]) hX ⟨0, rfl, (by omega), rfl⟩ ⟨sub_of kr kr ⟨bk_flat (tab ivC l) kr (tab_plain ivC_pl _) rfl, True.intro⟩, te_of kr kr⟩ kr ?_
  rintro m9 s9 ⟨i, rfl, i1_0, rfl⟩ R1_ hR1_
  by_cases hlt : i < l.length
  · skip
    obtain ⟨a1, ha1⟩ : ∃ x_, (l)[i]? = some x_ := ⟨_, List.getElem?_eq_getElem (by omega)⟩
    have hc1 := cntL_le l a1.2.1
    have hp1 := pressL_le l (l.take i)
    refine sd_run 3 ?_
    refine sd_see 12 (.bool true) (see_bool kr ((decide_eq_true (by omega)) : ((decide (((i : Nat) : Int) < ((l.length : Nat) : Int)))) = true)) ?_
    refine sd_run 10 ?_
    refine sd_ix 13 (.pointer (some ⟨0, 0 + i * 3, none⟩)) i l.length kr kr kr (by omega) ?_
    refine sd_ld 14 (.agg #[.int .i64 a1.1, .int .i64 a1.2.1, .int .i64 a1.2.2]) 40 (.pointer (some ⟨0, 0 + i * 3, none⟩)) kr kr kr (ld_row (l := l) (e := 40) (ro := false) (k := i) ivC_len kr kr kr ha1) ?_
    refine sd_run 18 ?_
    refine sd_loop 33 (cl (cl (cr (cl (cr (cr (cl (cl (cr (cr (cl (cl (cr (cl (cr (cr f15b)))))))))))))))) [.blk 2, .next (cr (cr (cr (cl (cl (cr (cr (cl (cl (cr (cl (cr (cr f15b))))))))))))), .blk 1, .next (cr (cr (cr (cl (cl (cr (cl (cr (cr f15b))))))))), .inv R1_, .blk 0, .next (cr (cr (cr f15b)))] kr kr kr (fun m9 s9 => ∃ (j : Nat), m9 = l.length - j ∧ (j ≤ l.length) ∧ s9 = ⟨tmL [(0, .slice (some ⟨0, 0, none⟩) l.length kc), (3, .int .i64 (((pressL l (l.take i)) : Nat) : Int)), (5, .pointer (some ⟨1, 0, none⟩)), (6, .int .i64 (((cntL (l.take j) a1.2.1) : Nat) : Int)), (9, .slice (some ⟨0, 0, none⟩) l.length kc), (10, .int .i64 ((l.length : Nat) : Int)), (11, .int .i64 ((i : Nat) : Int)), (15, .slice (some ⟨0, 0, none⟩) l.length kc), (16, .int .i64 ((l.length : Nat) : Int)), (17, .int .i64 ((j : Nat) : Int))], hq [some ⟨(tab ivC l), 40, false⟩, some ⟨[Value.int .i64 a1.1, .int .i64 a1.2.1, .int .i64 a1.2.2], 40, false⟩]⟩) (l.length - 0) _ (emOf [some 0, some 1]) hX ⟨0, rfl, (by omega), rfl⟩ ⟨sub_of kr kr ⟨bk_flat (tab ivC l) kr (tab_plain ivC_pl _) rfl, bk_ren kr kr, True.intro⟩, te_of kr kr⟩ kr ?_
    rintro m9 s9 ⟨j, rfl, i2_0, rfl⟩ R2_ hR2_
    by_cases hltB : j < l.length
    · skip
      obtain ⟨a2, ha2⟩ : ∃ x_, (l)[j]? = some x_ := ⟨_, List.getElem?_eq_getElem (by omega)⟩
      have hc2 := cntL_le (l.take j) a1.2.1
      rw [List.length_take] at hc2
      rcases Bool.eq_false_or_eq_true (atB (a2.1, a2.2.1, a2.2.2) a1.2.1) with hat | hat
      · skip
        refine sd_run 3 ?_
        refine sd_see 18 (.bool true) (see_bool kr ((decide_eq_true (by omega)) : ((decide (((j : Nat) : Int) < ((l.length : Nat) : Int)))) = true)) ?_
        refine sd_run 10 ?_
        refine sd_ix 19 (.pointer (some ⟨0, 0 + j * 3, none⟩)) j l.length kr kr kr (by omega) ?_
        refine sd_ld 20 (.agg #[.int .i64 a2.1, .int .i64 a2.2.1, .int .i64 a2.2.2]) 40 (.pointer (some ⟨0, 0 + j * 3, none⟩)) kr kr kr (ld_row (l := l) (e := 40) (ro := false) (k := j) ivC_len kr kr kr ha2) ?_
        refine sd_run 9 ?_
        refine sd_callp 24 22 #[.agg #[.int .i64 a2.1, .int .i64 a2.2.1, .int .i64 a2.2.2], .int .i64 a1.2.1] (at_s (vi := a2.1) (a := a2.2.1) (b := a2.2.2) (x := a1.2.1) ) [] kr kr kr (hn_of 0 kr True.intro) kr ?_
        rintro v9 k9 ⟨rfl, rfl⟩
        refine ⟨rfl, .bool (atB (a2.1, a2.2.1, a2.2.2) a1.2.1), kr, ?_⟩
        refine sd_see 24 (.bool true) (see_bool kr hat) ?_
        refine sd_run 6 ?_
        refine sd_see 26 (.int .i64 (((cntL (l.take j) a1.2.1) + 1 : Nat) : Int)) (see_int (x := (IntKind.i64.wrap ((((cntL (l.take j) a1.2.1) : Nat) : Int) + 1))) kr (w64 (by omega) (by omega) (by omega))) ?_
        refine sd_run 6 ?_
        refine sd_see 27 (.int .i64 ((j + 1 : Nat) : Int)) (see_int (x := (IntKind.i64.wrap (((j : Nat) : Int) + 1))) kr (w64 (by omega) (by omega) (by omega))) ?_
        refine sd_run 2 ?_
        refine sd_see 6 (.int .i64 (((cntL (l.take (j + 1)) a1.2.1) : Nat) : Int)) (see_int (x := (((cntL (l.take j) a1.2.1) + 1 : Nat) : Int)) kr (by rw [cntL_succ ha2, if_pos hat]; first | done | omega)) ?_
        refine sd_inv R2_ kr (hR2_ _ (l.length - (j + 1)) _ (emOf [some 0, some 1]) (by omega) ⟨j + 1, rfl, (by omega), rfl⟩ ⟨sub_of kr kr ⟨bk_flat (tab ivC l) kr (tab_plain ivC_pl _) rfl, bk_ren kr kr, True.intro⟩, te_of kr kr⟩ kr)
      · skip
        refine sd_run 3 ?_
        refine sd_see 18 (.bool true) (see_bool kr ((decide_eq_true (by omega)) : ((decide (((j : Nat) : Int) < ((l.length : Nat) : Int)))) = true)) ?_
        refine sd_run 10 ?_
        refine sd_ix 19 (.pointer (some ⟨0, 0 + j * 3, none⟩)) j l.length kr kr kr (by omega) ?_
        refine sd_ld 20 (.agg #[.int .i64 a2.1, .int .i64 a2.2.1, .int .i64 a2.2.2]) 40 (.pointer (some ⟨0, 0 + j * 3, none⟩)) kr kr kr (ld_row (l := l) (e := 40) (ro := false) (k := j) ivC_len kr kr kr ha2) ?_
        refine sd_run 9 ?_
        refine sd_callp 24 22 #[.agg #[.int .i64 a2.1, .int .i64 a2.2.1, .int .i64 a2.2.2], .int .i64 a1.2.1] (at_s (vi := a2.1) (a := a2.2.1) (b := a2.2.2) (x := a1.2.1) ) [] kr kr kr (hn_of 0 kr True.intro) kr ?_
        rintro v9 k9 ⟨rfl, rfl⟩
        refine ⟨rfl, .bool (atB (a2.1, a2.2.1, a2.2.2) a1.2.1), kr, ?_⟩
        refine sd_see 24 (.bool false) (see_bool kr hat) ?_
        refine sd_run 8 ?_
        refine sd_see 27 (.int .i64 ((j + 1 : Nat) : Int)) (see_int (x := (IntKind.i64.wrap (((j : Nat) : Int) + 1))) kr (w64 (by omega) (by omega) (by omega))) ?_
        refine sd_run 2 ?_
        refine sd_see 6 (.int .i64 (((cntL (l.take (j + 1)) a1.2.1) : Nat) : Int)) (see_int (x := (((cntL (l.take j) a1.2.1) : Nat) : Int)) kr (by rw [cntL_succ ha2, if_neg (by rw [hat]; exact Bool.false_ne_true)]; first | done | omega)) ?_
        refine sd_inv R2_ kr (hR2_ _ (l.length - (j + 1)) _ (emOf [some 0, some 1]) (by omega) ⟨j + 1, rfl, (by omega), rfl⟩ ⟨sub_of kr kr ⟨bk_flat (tab ivC l) kr (tab_plain ivC_pl _) rfl, bk_ren kr kr, True.intro⟩, te_of kr kr⟩ kr)
    · skip
      obtain rfl : j = l.length := by omega
      refine sd_see 6 (.int .i64 (((cntL l a1.2.1) : Nat) : Int)) (see_int (x := (((cntL (l.take l.length) a1.2.1) : Nat) : Int)) kr (by rw [List.take_length])) ?_
      refine sd_run 3 ?_
      refine sd_see 18 (.bool false) (see_bool kr ((decide_eq_false (by omega)) : ((decide (((l.length : Nat) : Int) < ((l.length : Nat) : Int)))) = false)) ?_
      refine sd_run 13 ?_
      refine sd_see 30 (.int .i64 (max (((pressL l (l.take i)) : Nat) : Int) (((cntL l a1.2.1) : Nat) : Int))) (see_int (x := (if (((cntL l a1.2.1) : Nat) : Int) > (((pressL l (l.take i)) : Nat) : Int) then (((cntL l a1.2.1) : Nat) : Int) else (((pressL l (l.take i)) : Nat) : Int))) kr (by split <;> omega)) ?_
      refine sd_run 6 ?_
      refine sd_see 31 (.int .i64 ((i + 1 : Nat) : Int)) (see_int (x := (IntKind.i64.wrap (((i : Nat) : Int) + 1))) kr (w64 (by omega) (by omega) (by omega))) ?_
      refine sd_run 2 ?_
      refine sd_see 3 (.int .i64 ((pressL l (l.take (i + 1)) : Nat) : Int)) (see_int (x := (max (((pressL l (l.take i)) : Nat) : Int) (((cntL l a1.2.1) : Nat) : Int))) kr (by rw [pressL_succ ha1]; omega)) ?_
      refine sd_inv R1_ kr (hR1_ _ (l.length - (i + 1)) _ (emOf [some 0]) (by omega) ⟨i + 1, rfl, (by omega), rfl⟩ ⟨sub_of kr kr ⟨bk_flat (tab ivC l) kr (tab_plain ivC_pl _) rfl, True.intro⟩, te_of kr kr⟩ kr)
  · skip
    obtain rfl : i = l.length := by omega
    refine sd_run 3 ?_
    refine sd_see 12 (.bool false) (see_bool kr ((decide_eq_false (by omega)) : ((decide (((l.length : Nat) : Int) < ((l.length : Nat) : Int)))) = false)) ?_
    refine sd_run 16 ?_
    refine sd_end (.int .i64 (((pressL l (l.take l.length)) : Nat) : Int)) hX kr kr kr (.int .i64 (((pressL l (l.take l.length)) : Nat) : Int)) (hq [some ⟨(tab ivC l), 40, false⟩]) (emOf [some 0]) (sub_of kr kr ⟨bk_flat (tab ivC l) kr (tab_plain ivC_pl _) rfl, True.intro⟩) (rn2_sound _ _ kr) ⟨(by rw [List.take_length]), rfl⟩
end Ls
end Go.Proofs.Ytahikechkggbfaa
