/- Chapter 20: meetings; blocks that are not right. -/
import Derived.Test.YtahikechkggbfaaLi
namespace Go.Proofs.Ytahikechkggbfaa
open Go Go.Ev Go.RowKit
set_option linter.unusedVariables false
set_option linter.unusedSimpArgs false
set_option maxRecDepth 100000
namespace Lm
noncomputable def f13b : Code := Try.f13.body.getD .skip
theorem f13_body : Try.f13.body = some f13b := by kernel_rfl
theorem f13_fn : T2.fn 13 = some Try.f13 := by kernel_rfl
noncomputable def f14b : Code := Try.f14.body.getD .skip
theorem f14_body : Try.f14.body = some f14b := by kernel_rfl
theorem f14_fn : T2.fn 14 = some Try.f14 := by kernel_rfl
theorem veqs_c {x : Value} {a : List Value} (h : veq x x = true) (t : veqs a a = true) (hx : veq x x = veq0 x x := by rfl) : veqs (x :: a) (x :: a) = true := by unfold veqs; rw [← hx, h, t]; rfl
def meetB (f1 t1 f2 t2 : Int) : Bool := (decide (f1 < t2) && decide (f2 < t1)) || decide (f1 = f2)
theorem meetB_iff (f1 t1 f2 t2 : Int) : meetB f1 t1 f2 t2 = true ↔ (f1 < t2 ∧ f2 < t1) ∨ f1 = f2 := by unfold meetB; simp
theorem of_runL {H : Heap} {c : List II} {o : List Int} {fl : Int} {pc po : Option Addr} {cc co lo : Nat} {l : List IV} (hl : l = ofL maxat c o fl) (hok : PgOk c o fl) (hgc : Gr H lo 50 5 (.slice pc c.length cc) c.length (iis c)) (hgo : Gr H lo 3 1 (.slice po o.length co) o.length (o.map (Value.int .i64))) : ACall Try.prog T2 10 #[.agg #[(.slice pc c.length cc), .int .i64 0, .int .i64 0, .int .i64 0, .int .i64 0, (.slice po o.length co), .slice none 0 0, .int .i64 fl, .int .u32 0, .int .i64 (-1), .int .i64 0, .int .u32 0, .int .i64 1, .int .i64 ((c.length : Nat) : Int)]] H fun r H' => ∃ pv cv, r = .slice pv l.length cv ∧ Gr H' H.n 40 3 (.slice pv l.length cv) l.length (ivs l) ∧ Up H.n H H' := by
  have e : l.length = c.length := by rw [hl, ofL_len maxat_len]
  rw [e, hl]
  exact of_run hok hgc hgo
theorem rof_runL {H : Heap} {c : List II} {o : List Int} {fl : Int} {pc po : Option Addr} {cc co lo : Nat} {l : List IV} (hl : l = ofL maxat c o fl) (hok : PgOk c o fl) (hgc : Gr H lo 50 5 (.slice pc c.length cc) c.length (iis c)) (hgo : Gr H lo 3 1 (.slice po o.length co) o.length (o.map (Value.int .i64))) : ACall Try.prog T2 19 #[.agg #[(.slice pc c.length cc), .int .i64 0, .int .i64 0, .int .i64 0, .int .i64 0, (.slice po o.length co), .slice none 0 0, .int .i64 fl, .int .u32 0, .int .i64 (-1), .int .i64 0, .int .u32 0, .int .i64 1, .int .i64 ((c.length : Nat) : Int)]] H fun r H' => ∃ pv cv, r = .slice pv l.length cv ∧ Gr H' H.n 41 3 (.slice pv l.length cv) l.length (ivs l) ∧ Up H.n H H' := by
  have e : l.length = c.length := by rw [hl, ofL_len maxat_len]
  rw [e, hl, ofL_eq hok]
  exact rof_run hok hgc hgo
theorem rpress_runM {H : Heap} {l : List IV} {pt : Option Addr} {cap lo : Nat} (hlen : l.length ≤ 1000) (hg : Gr H lo 41 3 (.slice pt l.length cap) l.length (ivs l)) : ACall Try.prog T2 16 #[(.slice pt l.length cap)] H fun r H' => r = .int .i64 (most l l) ∧ Up H.n H H' := by
  rw [← rmost_most]
  exact rpress_run hlen hg
theorem meet_run {H : Heap} (a1 f1 t1 a2 f2 t2 : Int) : ACall Try.prog T2 13 #[.agg #[.int .i64 a1, .int .i64 f1, .int .i64 t1], .agg #[.int .i64 a2, .int .i64 f2, .int .i64 t2]] H fun r H' => r = .bool (meetB f1 t1 f2 t2) ∧ Up H.n H H' := by
  refine acall_cf 24 (initTm 0 #[.agg #[.int .i64 a1, .int .i64 f1, .int .i64 t1], .agg #[.int .i64 a2, .int .i64 f2, .int .i64 t2]]) rfl f13_fn f13_body rfl rfl ?_
  refine cf_go 2 ?_
  obtain ⟨H1_, hH1_⟩ : ∃ x : Heap, x = H.push ⟨[Value.int .i64 a1, .int .i64 f1, .int .i64 t1], 40, false⟩ := ⟨_, rfl⟩
  have nH1_ : H1_.n = H.n + 1 := by rw [hH1_]; rfl
  refine cf_val 2 (.pointer (some ⟨H.n, 0, none⟩)) H1_ (by kernel_rfl) ((by kernel_rfl : _ = some (Res.val (.pointer (some ⟨H.n, 0, none⟩)), H.push ⟨[Value.int .i64 a1, .int .i64 f1, .int .i64 t1], 40, false⟩)).trans (by rw [← hH1_])) ?_
  obtain ⟨H2_, hH2_⟩ : ∃ x : Heap, x = H1_.push ⟨[Value.int .i64 a2, .int .i64 f2, .int .i64 t2], 40, false⟩ := ⟨_, rfl⟩
  have nH2_ : H2_.n = H1_.n + 1 := by rw [hH2_]; rfl
  refine cf_val 3 (.pointer (some ⟨H1_.n, 0, none⟩)) H2_ (by kernel_rfl) ((by kernel_rfl : _ = some (Res.val (.pointer (some ⟨H1_.n, 0, none⟩)), H1_.push ⟨[Value.int .i64 a2, .int .i64 f2, .int .i64 t2], 40, false⟩)).trans (by rw [← hH2_])) ?_
  refine cf_go 6 ?_
  have gH2_H_n : H2_.get (H.n) = some ⟨[Value.int .i64 a1, .int .i64 f1, .int .i64 t1], 40, false⟩ := by rw [hH2_, Heap.get_push, if_neg (by omega)]; rw [hH1_]; exact (Heap.get_push _ _ _).trans (if_pos rfl)
  refine cf_val 6 (.int .i64 f1) H2_ (by kernel_rfl) ((by kernel_rfl : _ = val (aload T2 3 (.pointer (some ⟨H.n, 1, none⟩)) H2_) H2_).trans (val_of ((aload_at gH2_H_n).trans (by kernel_rfl)))) ?_
  refine cf_go 1 ?_
  have gH2_H1__n : H2_.get (H1_.n) = some ⟨[Value.int .i64 a2, .int .i64 f2, .int .i64 t2], 40, false⟩ := by rw [hH2_]; exact (Heap.get_push _ _ _).trans (if_pos rfl)
  refine cf_val 8 (.int .i64 t2) H2_ (by kernel_rfl) ((by kernel_rfl : _ = val (aload T2 3 (.pointer (some ⟨H1_.n, 2, none⟩)) H2_) H2_).trans (val_of ((aload_at gH2_H1__n).trans (by kernel_rfl)))) ?_
  refine cf_go 2 ?_
  rcases Bool.eq_false_or_eq_true ((decide ((f1 : Int) < t2))) with hc1 | hc1
  · skip
    refine cf_see 10 (.bool true) (see_bool (by kernel_rfl) hc1) ?_
    refine cf_go 1 ?_
    refine cf_val 12 (.int .i64 f2) H2_ (by kernel_rfl) ((by kernel_rfl : _ = val (aload T2 3 (.pointer (some ⟨H1_.n, 1, none⟩)) H2_) H2_).trans (val_of ((aload_at gH2_H1__n).trans (by kernel_rfl)))) ?_
    refine cf_go 1 ?_
    refine cf_val 14 (.int .i64 t1) H2_ (by kernel_rfl) ((by kernel_rfl : _ = val (aload T2 3 (.pointer (some ⟨H.n, 2, none⟩)) H2_) H2_).trans (val_of ((aload_at gH2_H_n).trans (by kernel_rfl)))) ?_
    refine cf_go 3 ?_
    rcases Bool.eq_false_or_eq_true ((decide ((f2 : Int) < t1))) with hc2 | hc2
    · skip
      refine cf_see 17 (.bool true) (see_bool (by kernel_rfl) hc2) ?_
      refine cf_go 10 ?_
      have hq : meetB f1 t1 f2 t2 = true := by
        simp only [decide_eq_true_eq, decide_eq_false_iff_not, beq_iff_eq, beq_eq_false_iff_ne, Bool.not_eq_true, ne_eq] at hc1 hc2; rw [meetB_iff]; omega
      refine cf_end (.bool true) H2_ (by kernel_rfl) (by kernel_rfl) (by kernel_rfl) ?_
      exact ⟨by rw [hq], (show Up H.n H H2_ from ⟨by omega, fun b hb => by rw [hH2_, Heap.get_push, if_neg (by omega), hH1_, Heap.get_push, if_neg (by omega)]⟩)⟩
    · skip
      refine cf_see 17 (.bool false) (see_bool (by kernel_rfl) hc2) ?_
      refine cf_go 1 ?_
      refine cf_val 19 (.int .i64 f1) H2_ (by kernel_rfl) ((by kernel_rfl : _ = val (aload T2 3 (.pointer (some ⟨H.n, 1, none⟩)) H2_) H2_).trans (val_of ((aload_at gH2_H_n).trans (by kernel_rfl)))) ?_
      refine cf_go 1 ?_
      refine cf_val 21 (.int .i64 f2) H2_ (by kernel_rfl) ((by kernel_rfl : _ = val (aload T2 3 (.pointer (some ⟨H1_.n, 1, none⟩)) H2_) H2_).trans (val_of ((aload_at gH2_H1__n).trans (by kernel_rfl)))) ?_
      refine cf_go 6 ?_
      have hq : meetB f1 t1 f2 t2 = ((f1 : Int) == f2) := by
        simp only [decide_eq_true_eq, decide_eq_false_iff_not, beq_iff_eq, beq_eq_false_iff_ne, Bool.not_eq_true, ne_eq] at hc1 hc2; rw [Bool.eq_iff_iff, meetB_iff]; simp only [decide_eq_true_eq, decide_eq_false_iff_not, beq_iff_eq, beq_eq_false_iff_ne, Bool.not_eq_true, ne_eq]; omega
      refine cf_end (.bool ((f1 : Int) == f2)) H2_ (by kernel_rfl) (by kernel_rfl) (by kernel_rfl) ?_
      exact ⟨by rw [hq], (show Up H.n H H2_ from ⟨by omega, fun b hb => by rw [hH2_, Heap.get_push, if_neg (by omega), hH1_, Heap.get_push, if_neg (by omega)]⟩)⟩
  · skip
    refine cf_see 10 (.bool false) (see_bool (by kernel_rfl) hc1) ?_
    refine cf_go 8 ?_
    refine cf_val 19 (.int .i64 f1) H2_ (by kernel_rfl) ((by kernel_rfl : _ = val (aload T2 3 (.pointer (some ⟨H.n, 1, none⟩)) H2_) H2_).trans (val_of ((aload_at gH2_H_n).trans (by kernel_rfl)))) ?_
    refine cf_go 1 ?_
    refine cf_val 21 (.int .i64 f2) H2_ (by kernel_rfl) ((by kernel_rfl : _ = val (aload T2 3 (.pointer (some ⟨H1_.n, 1, none⟩)) H2_) H2_).trans (val_of ((aload_at gH2_H1__n).trans (by kernel_rfl)))) ?_
    refine cf_go 6 ?_
    have hq : meetB f1 t1 f2 t2 = ((f1 : Int) == f2) := by
      simp only [decide_eq_true_eq, decide_eq_false_iff_not, beq_iff_eq, beq_eq_false_iff_ne, Bool.not_eq_true, ne_eq] at hc1; rw [Bool.eq_iff_iff, meetB_iff]; simp only [decide_eq_true_eq, decide_eq_false_iff_not, beq_iff_eq, beq_eq_false_iff_ne, Bool.not_eq_true, ne_eq]; omega
    refine cf_end (.bool ((f1 : Int) == f2)) H2_ (by kernel_rfl) (by kernel_rfl) (by kernel_rfl) ?_
    exact ⟨by rw [hq], (show Up H.n H H2_ from ⟨by omega, fun b hb => by rw [hH2_, Heap.get_push, if_neg (by omega), hH1_, Heap.get_push, if_neg (by omega)]⟩)⟩
theorem rmeet_run {H : Heap} (a1 f1 t1 a2 f2 t2 : Int) : ACall Try.prog T2 14 #[.agg #[.int .i64 a1, .int .i64 f1, .int .i64 t1], .agg #[.int .i64 a2, .int .i64 f2, .int .i64 t2]] H fun r H' => r = .bool (meetB f1 t1 f2 t2) ∧ Up H.n H H' := by
  refine acall_cf 24 (initTm 0 #[.agg #[.int .i64 a1, .int .i64 f1, .int .i64 t1], .agg #[.int .i64 a2, .int .i64 f2, .int .i64 t2]]) rfl f14_fn f14_body rfl rfl ?_
  refine cf_go 2 ?_
  obtain ⟨H1_, hH1_⟩ : ∃ x : Heap, x = H.push ⟨[Value.int .i64 a1, .int .i64 f1, .int .i64 t1], 41, false⟩ := ⟨_, rfl⟩
  have nH1_ : H1_.n = H.n + 1 := by rw [hH1_]; rfl
  refine cf_val 2 (.pointer (some ⟨H.n, 0, none⟩)) H1_ (by kernel_rfl) ((by kernel_rfl : _ = some (Res.val (.pointer (some ⟨H.n, 0, none⟩)), H.push ⟨[Value.int .i64 a1, .int .i64 f1, .int .i64 t1], 41, false⟩)).trans (by rw [← hH1_])) ?_
  obtain ⟨H2_, hH2_⟩ : ∃ x : Heap, x = H1_.push ⟨[Value.int .i64 a2, .int .i64 f2, .int .i64 t2], 41, false⟩ := ⟨_, rfl⟩
  have nH2_ : H2_.n = H1_.n + 1 := by rw [hH2_]; rfl
  refine cf_val 3 (.pointer (some ⟨H1_.n, 0, none⟩)) H2_ (by kernel_rfl) ((by kernel_rfl : _ = some (Res.val (.pointer (some ⟨H1_.n, 0, none⟩)), H1_.push ⟨[Value.int .i64 a2, .int .i64 f2, .int .i64 t2], 41, false⟩)).trans (by rw [← hH2_])) ?_
  refine cf_go 6 ?_
  have gH2_H_n : H2_.get (H.n) = some ⟨[Value.int .i64 a1, .int .i64 f1, .int .i64 t1], 41, false⟩ := by rw [hH2_, Heap.get_push, if_neg (by omega)]; rw [hH1_]; exact (Heap.get_push _ _ _).trans (if_pos rfl)
  refine cf_val 6 (.int .i64 f1) H2_ (by kernel_rfl) ((by kernel_rfl : _ = val (aload T2 3 (.pointer (some ⟨H.n, 1, none⟩)) H2_) H2_).trans (val_of ((aload_at gH2_H_n).trans (by kernel_rfl)))) ?_
  refine cf_go 1 ?_
  have gH2_H1__n : H2_.get (H1_.n) = some ⟨[Value.int .i64 a2, .int .i64 f2, .int .i64 t2], 41, false⟩ := by rw [hH2_]; exact (Heap.get_push _ _ _).trans (if_pos rfl)
  refine cf_val 8 (.int .i64 t2) H2_ (by kernel_rfl) ((by kernel_rfl : _ = val (aload T2 3 (.pointer (some ⟨H1_.n, 2, none⟩)) H2_) H2_).trans (val_of ((aload_at gH2_H1__n).trans (by kernel_rfl)))) ?_
  refine cf_go 2 ?_
  rcases Bool.eq_false_or_eq_true ((decide ((f1 : Int) < t2))) with hc1 | hc1
  · skip
    refine cf_see 10 (.bool true) (see_bool (by kernel_rfl) hc1) ?_
    refine cf_go 1 ?_
    refine cf_val 12 (.int .i64 f2) H2_ (by kernel_rfl) ((by kernel_rfl : _ = val (aload T2 3 (.pointer (some ⟨H1_.n, 1, none⟩)) H2_) H2_).trans (val_of ((aload_at gH2_H1__n).trans (by kernel_rfl)))) ?_
    refine cf_go 1 ?_
    refine cf_val 14 (.int .i64 t1) H2_ (by kernel_rfl) ((by kernel_rfl : _ = val (aload T2 3 (.pointer (some ⟨H.n, 2, none⟩)) H2_) H2_).trans (val_of ((aload_at gH2_H_n).trans (by kernel_rfl)))) ?_
    refine cf_go 3 ?_
    rcases Bool.eq_false_or_eq_true ((decide ((f2 : Int) < t1))) with hc2 | hc2
    · skip
      refine cf_see 17 (.bool true) (see_bool (by kernel_rfl) hc2) ?_
      refine cf_go 10 ?_
      have hq : meetB f1 t1 f2 t2 = true := by
        simp only [decide_eq_true_eq, decide_eq_false_iff_not, beq_iff_eq, beq_eq_false_iff_ne, Bool.not_eq_true, ne_eq] at hc1 hc2; rw [meetB_iff]; omega
      refine cf_end (.bool true) H2_ (by kernel_rfl) (by kernel_rfl) (by kernel_rfl) ?_
      exact ⟨by rw [hq], (show Up H.n H H2_ from ⟨by omega, fun b hb => by rw [hH2_, Heap.get_push, if_neg (by omega), hH1_, Heap.get_push, if_neg (by omega)]⟩)⟩
    · skip
      refine cf_see 17 (.bool false) (see_bool (by kernel_rfl) hc2) ?_
      refine cf_go 1 ?_
      refine cf_val 19 (.int .i64 f1) H2_ (by kernel_rfl) ((by kernel_rfl : _ = val (aload T2 3 (.pointer (some ⟨H.n, 1, none⟩)) H2_) H2_).trans (val_of ((aload_at gH2_H_n).trans (by kernel_rfl)))) ?_
      refine cf_go 1 ?_
      refine cf_val 21 (.int .i64 f2) H2_ (by kernel_rfl) ((by kernel_rfl : _ = val (aload T2 3 (.pointer (some ⟨H1_.n, 1, none⟩)) H2_) H2_).trans (val_of ((aload_at gH2_H1__n).trans (by kernel_rfl)))) ?_
      refine cf_go 6 ?_
      have hq : meetB f1 t1 f2 t2 = ((f1 : Int) == f2) := by
        simp only [decide_eq_true_eq, decide_eq_false_iff_not, beq_iff_eq, beq_eq_false_iff_ne, Bool.not_eq_true, ne_eq] at hc1 hc2; rw [Bool.eq_iff_iff, meetB_iff]; simp only [decide_eq_true_eq, decide_eq_false_iff_not, beq_iff_eq, beq_eq_false_iff_ne, Bool.not_eq_true, ne_eq]; omega
      refine cf_end (.bool ((f1 : Int) == f2)) H2_ (by kernel_rfl) (by kernel_rfl) (by kernel_rfl) ?_
      exact ⟨by rw [hq], (show Up H.n H H2_ from ⟨by omega, fun b hb => by rw [hH2_, Heap.get_push, if_neg (by omega), hH1_, Heap.get_push, if_neg (by omega)]⟩)⟩
  · skip
    refine cf_see 10 (.bool false) (see_bool (by kernel_rfl) hc1) ?_
    refine cf_go 8 ?_
    refine cf_val 19 (.int .i64 f1) H2_ (by kernel_rfl) ((by kernel_rfl : _ = val (aload T2 3 (.pointer (some ⟨H.n, 1, none⟩)) H2_) H2_).trans (val_of ((aload_at gH2_H_n).trans (by kernel_rfl)))) ?_
    refine cf_go 1 ?_
    refine cf_val 21 (.int .i64 f2) H2_ (by kernel_rfl) ((by kernel_rfl : _ = val (aload T2 3 (.pointer (some ⟨H1_.n, 1, none⟩)) H2_) H2_).trans (val_of ((aload_at gH2_H1__n).trans (by kernel_rfl)))) ?_
    refine cf_go 6 ?_
    have hq : meetB f1 t1 f2 t2 = ((f1 : Int) == f2) := by
      simp only [decide_eq_true_eq, decide_eq_false_iff_not, beq_iff_eq, beq_eq_false_iff_ne, Bool.not_eq_true, ne_eq] at hc1; rw [Bool.eq_iff_iff, meetB_iff]; simp only [decide_eq_true_eq, decide_eq_false_iff_not, beq_iff_eq, beq_eq_false_iff_ne, Bool.not_eq_true, ne_eq]; omega
    refine cf_end (.bool ((f1 : Int) == f2)) H2_ (by kernel_rfl) (by kernel_rfl) (by kernel_rfl) ?_
    exact ⟨by rw [hq], (show Up H.n H H2_ from ⟨by omega, fun b hb => by rw [hH2_, Heap.get_push, if_neg (by omega), hH1_, Heap.get_push, if_neg (by omega)]⟩)⟩
theorem of_no {H : Heap} {c : List II} {o : List Int} {fl : Int} {pc po : Option Addr} {cc co lo : Nat} (hok : PgOk c o fl) (hgc : Gr H lo 50 5 (.slice pc c.length cc) c.length (iis c)) (hgo : Gr H lo 3 1 (.slice po o.length co) o.length (o.map (Value.int .i64))) : ACall Try.prog T2 10 #[.agg #[(.slice pc c.length cc), .int .i64 0, .int .i64 0, .int .i64 0, .int .i64 0, (.slice po o.length co), .slice none 0 0, .int .i64 fl, .int .u32 0, .int .i64 (-1), .int .i64 0, .int .u32 0, .int .i64 1, .int .i64 (((c.length + 1) : Nat) : Int)]] H fun r H' => r = .slice none 0 0 ∧ Up H.n H H' := by
  refine acall_cf 86 (initTm 0 #[.agg #[(.slice pc c.length cc), .int .i64 0, .int .i64 0, .int .i64 0, .int .i64 0, (.slice po o.length co), .slice none 0 0, .int .i64 fl, .int .u32 0, .int .i64 (-1), .int .i64 0, .int .u32 0, .int .i64 1, .int .i64 (((c.length + 1) : Nat) : Int)]]) rfl f10_fn f10_body rfl rfl ?_
  refine cf_go 2 ?_
  obtain ⟨H1_, hH1_⟩ : ∃ x : Heap, x = H.push ⟨[(.slice pc c.length cc), .int .i64 0, .int .i64 0, .int .i64 0, .int .i64 0, (.slice po o.length co), .slice none 0 0, .int .i64 fl, .int .u32 0, .int .i64 (-1), .int .i64 0, .int .u32 0, .int .i64 1, .int .i64 (((c.length + 1) : Nat) : Int)], 29, false⟩ := ⟨_, rfl⟩
  have nH1_ : H1_.n = H.n + 1 := by rw [hH1_]; rfl
  refine cf_val 1 (.pointer (some ⟨H.n, 0, none⟩)) H1_ (by kernel_rfl) ((by kernel_rfl : _ = some (Res.val (.pointer (some ⟨H.n, 0, none⟩)), H.push ⟨[(.slice pc c.length cc), .int .i64 0, .int .i64 0, .int .i64 0, .int .i64 0, (.slice po o.length co), .slice none 0 0, .int .i64 fl, .int .u32 0, .int .i64 (-1), .int .i64 0, .int .u32 0, .int .i64 1, .int .i64 (((c.length + 1) : Nat) : Int)], 29, false⟩)).trans (by rw [← hH1_])) ?_
  refine cf_go 6 ?_
  have gH1_H_n : H1_.get (H.n) = some ⟨[(.slice pc c.length cc), .int .i64 0, .int .i64 0, .int .i64 0, .int .i64 0, (.slice po o.length co), .slice none 0 0, .int .i64 fl, .int .u32 0, .int .i64 (-1), .int .i64 0, .int .u32 0, .int .i64 1, .int .i64 (((c.length + 1) : Nat) : Int)], 29, false⟩ := by rw [hH1_]; exact (Heap.get_push _ _ _).trans (if_pos rfl)
  refine cf_val 12 (.agg #[(.slice pc c.length cc), .int .i64 0, .int .i64 0, .int .i64 0, .int .i64 0, (.slice po o.length co), .slice none 0 0, .int .i64 fl, .int .u32 0, .int .i64 (-1), .int .i64 0, .int .u32 0, .int .i64 1, .int .i64 (((c.length + 1) : Nat) : Int)]) H1_ (by kernel_rfl) ((by kernel_rfl : _ = val (aload T2 29 (.pointer (some ⟨H.n, 0, none⟩)) H1_) H1_).trans (val_of ((aload_at gH1_H_n).trans (by kernel_rfl)))) ?_
  refine cf_call 13 20 #[.agg #[(.slice pc c.length cc), .int .i64 0, .int .i64 0, .int .i64 0, .int .i64 0, (.slice po o.length co), .slice none 0 0, .int .i64 fl, .int .u32 0, .int .i64 (-1), .int .i64 0, .int .u32 0, .int .i64 1, .int .i64 (((c.length + 1) : Nat) : Int)]] H1_ (by kernel_rfl) (by kernel_rfl) (by kernel_rfl) (right_no hok (hgc.keep (lo' := 0) (by omega) (fun b hb1 hb2 => by rw [hH1_, Heap.get_push, if_neg (by omega)])) (hgo.keep (lo' := 0) (by omega) (fun b hb1 hb2 => by rw [hH1_, Heap.get_push, if_neg (by omega)])) rfl) ?_
  rintro _ H2_ ⟨rfl, uH2_⟩
  have nH2_ := uH2_.n
  refine cf_go 11 ?_
  refine cf_end (.slice none 0 0) H2_ (by kernel_rfl) (by kernel_rfl) (by kernel_rfl) ?_
  exact ⟨(by kernel_rfl), (show Up H.n H H2_ from ⟨by omega, fun b hb => by rw [uH2_.get _ (by omega), hH1_, Heap.get_push, if_neg (by omega)]⟩)⟩
theorem rof_no {H : Heap} {c : List II} {o : List Int} {fl : Int} {pc po : Option Addr} {cc co lo : Nat} (hok : PgOk c o fl) (hgc : Gr H lo 50 5 (.slice pc c.length cc) c.length (iis c)) (hgo : Gr H lo 3 1 (.slice po o.length co) o.length (o.map (Value.int .i64))) : ACall Try.prog T2 19 #[.agg #[(.slice pc c.length cc), .int .i64 0, .int .i64 0, .int .i64 0, .int .i64 0, (.slice po o.length co), .slice none 0 0, .int .i64 fl, .int .u32 0, .int .i64 (-1), .int .i64 0, .int .u32 0, .int .i64 1, .int .i64 (((c.length + 1) : Nat) : Int)]] H fun r H' => r = .slice none 0 0 ∧ Up H.n H H' := by
  refine acall_cf 95 (initTm 0 #[.agg #[(.slice pc c.length cc), .int .i64 0, .int .i64 0, .int .i64 0, .int .i64 0, (.slice po o.length co), .slice none 0 0, .int .i64 fl, .int .u32 0, .int .i64 (-1), .int .i64 0, .int .u32 0, .int .i64 1, .int .i64 (((c.length + 1) : Nat) : Int)]]) rfl f19_fn f19_body rfl rfl ?_
  refine cf_go 2 ?_
  obtain ⟨H1_, hH1_⟩ : ∃ x : Heap, x = H.push ⟨[(.slice pc c.length cc), .int .i64 0, .int .i64 0, .int .i64 0, .int .i64 0, (.slice po o.length co), .slice none 0 0, .int .i64 fl, .int .u32 0, .int .i64 (-1), .int .i64 0, .int .u32 0, .int .i64 1, .int .i64 (((c.length + 1) : Nat) : Int)], 29, false⟩ := ⟨_, rfl⟩
  have nH1_ : H1_.n = H.n + 1 := by rw [hH1_]; rfl
  refine cf_val 1 (.pointer (some ⟨H.n, 0, none⟩)) H1_ (by kernel_rfl) ((by kernel_rfl : _ = some (Res.val (.pointer (some ⟨H.n, 0, none⟩)), H.push ⟨[(.slice pc c.length cc), .int .i64 0, .int .i64 0, .int .i64 0, .int .i64 0, (.slice po o.length co), .slice none 0 0, .int .i64 fl, .int .u32 0, .int .i64 (-1), .int .i64 0, .int .u32 0, .int .i64 1, .int .i64 (((c.length + 1) : Nat) : Int)], 29, false⟩)).trans (by rw [← hH1_])) ?_
  refine cf_go 6 ?_
  have gH1_H_n : H1_.get (H.n) = some ⟨[(.slice pc c.length cc), .int .i64 0, .int .i64 0, .int .i64 0, .int .i64 0, (.slice po o.length co), .slice none 0 0, .int .i64 fl, .int .u32 0, .int .i64 (-1), .int .i64 0, .int .u32 0, .int .i64 1, .int .i64 (((c.length + 1) : Nat) : Int)], 29, false⟩ := by rw [hH1_]; exact (Heap.get_push _ _ _).trans (if_pos rfl)
  refine cf_val 11 (.agg #[(.slice pc c.length cc), .int .i64 0, .int .i64 0, .int .i64 0, .int .i64 0, (.slice po o.length co), .slice none 0 0, .int .i64 fl, .int .u32 0, .int .i64 (-1), .int .i64 0, .int .u32 0, .int .i64 1, .int .i64 (((c.length + 1) : Nat) : Int)]) H1_ (by kernel_rfl) ((by kernel_rfl : _ = val (aload T2 29 (.pointer (some ⟨H.n, 0, none⟩)) H1_) H1_).trans (val_of ((aload_at gH1_H_n).trans (by kernel_rfl)))) ?_
  refine cf_call 12 18 #[.agg #[(.slice pc c.length cc), .int .i64 0, .int .i64 0, .int .i64 0, .int .i64 0, (.slice po o.length co), .slice none 0 0, .int .i64 fl, .int .u32 0, .int .i64 (-1), .int .i64 0, .int .u32 0, .int .i64 1, .int .i64 (((c.length + 1) : Nat) : Int)]] H1_ (by kernel_rfl) (by kernel_rfl) (by kernel_rfl) (rright_no hok (hgc.keep (lo' := 0) (by omega) (fun b hb1 hb2 => by rw [hH1_, Heap.get_push, if_neg (by omega)])) (hgo.keep (lo' := 0) (by omega) (fun b hb1 hb2 => by rw [hH1_, Heap.get_push, if_neg (by omega)])) rfl) ?_
  rintro _ H2_ ⟨rfl, uH2_⟩
  have nH2_ := uH2_.n
  refine cf_go 11 ?_
  refine cf_end (.slice none 0 0) H2_ (by kernel_rfl) (by kernel_rfl) (by kernel_rfl) ?_
  exact ⟨(by kernel_rfl), (show Up H.n H H2_ from ⟨by omega, fun b hb => by rw [uH2_.get _ (by omega), hH1_, Heap.get_push, if_neg (by omega)]⟩)⟩
end Lm
end Go.Proofs.Ytahikechkggbfaa
