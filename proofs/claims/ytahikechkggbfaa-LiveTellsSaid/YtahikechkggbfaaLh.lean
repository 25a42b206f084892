/- Chapter 20: how many press. -/
import Derived.Test.YtahikechkggbfaaLg
namespace Go.Proofs.Ytahikechkggbfaa
open Go Go.Ev Go.RowKit
set_option linter.unusedVariables false
set_option linter.unusedSimpArgs false
set_option maxRecDepth 100000
namespace Lm
def atB (f t x : Int) : Bool := (decide (f ≤ x) && decide (x < t)) || (decide (f = x) && decide (t = x))
/-- How many live at a place. -/
def cnt (l : List IV) (x : Int) : Int := ((l.filter fun i => atB i.2.1 i.2.2 x).length : Int)
theorem cnt_snoc (l : List IV) (i : IV) (x : Int) : cnt (l ++ [i]) x = cnt l x + if atB i.2.1 i.2.2 x = true then 1 else 0 := by
  unfold cnt; rw [List.filter_append]; cases h : atB i.2.1 i.2.2 x <;> simp [List.filter_cons, h]
theorem cnt_le (l : List IV) (x : Int) : 0 ≤ cnt l x ∧ cnt l x ≤ l.length := by
  unfold cnt; exact ⟨by omega, by have := List.length_filter_le (fun i : IV => atB i.2.1 i.2.2 x) l; omega⟩
/-- The most that live where one of these begins. -/
def most (l m : List IV) : Int := m.foldl (fun a i => max a (cnt l i.2.1)) 0
theorem most_snoc (l m : List IV) (i : IV) : most l (m ++ [i]) = max (most l m) (cnt l i.2.1) := by unfold most; rw [List.foldl_append]; rfl
def rmost (l m : List IV) : Int := m.foldl (fun a i => max (max a (cnt l i.2.1)) (cnt l i.2.2)) 0
theorem rmost_snoc (l m : List IV) (i : IV) : rmost l (m ++ [i]) = max (max (rmost l m) (cnt l i.2.1)) (cnt l i.2.2) := by unfold rmost; rw [List.foldl_append]; rfl
/-! ### the most press where one begins -/
theorem cnt_mono (l : List IV) (x y : Int) (h : ∀ i ∈ l, atB i.2.1 i.2.2 x = true → atB i.2.1 i.2.2 y = true) : cnt l x ≤ cnt l y := by
  unfold cnt
  have := List.countP_mono_left (l := l) (p := fun i => atB i.2.1 i.2.2 x) (q := fun i => atB i.2.1 i.2.2 y) (fun i hi hp => h i hi hp)
  rw [List.countP_eq_length_filter, List.countP_eq_length_filter] at this
  omega
theorem most_aux (l : List IV) : ∀ (m : List IV) (a : Int), (m.foldl (fun a i => max a (cnt l i.2.1)) a) = max a (m.foldl (fun a i => max a (cnt l i.2.1)) a) ∧ ∀ i ∈ m, cnt l i.2.1 ≤ m.foldl (fun a i => max a (cnt l i.2.1)) a := by
  intro m
  induction m with
  | nil => intro a; simp
  | cons b m ih =>
    intro a
    rw [List.foldl_cons]
    obtain ⟨h1, h2⟩ := ih (max a (cnt l b.2.1))
    refine ⟨by omega, fun i hi => ?_⟩
    rw [List.mem_cons] at hi
    rcases hi with rfl | hi
    · omega
    · exact h2 i hi
theorem most_ge (l m : List IV) (i : IV) (h : i ∈ m) : cnt l i.2.1 ≤ most l m := (most_aux l m 0).2 i h
theorem most_nonneg (l m : List IV) : 0 ≤ most l m := by have := (most_aux l m 0).1; unfold most; omega
/-- Among some that are there, one begins last. -/
theorem last_begin : ∀ (m : List IV), m ≠ [] → ∃ i ∈ m, ∀ j ∈ m, j.2.1 ≤ i.2.1 := by
  intro m
  induction m with
  | nil => intro h; exact absurd rfl h
  | cons a m ih =>
    intro _
    by_cases hm : m = []
    · subst hm
      refine ⟨a, by simp, fun j hj => ?_⟩
      rw [List.mem_singleton] at hj
      subst hj
      exact Int.le_refl _
    · obtain ⟨i, hi, hj⟩ := ih hm
      by_cases h : a.2.1 ≤ i.2.1
      · exact ⟨i, by simp [hi], fun j hj' => by
          rw [List.mem_cons] at hj'
          rcases hj' with rfl | hj'
          · exact h
          · exact hj j hj'⟩
      · exact ⟨a, by simp, fun j hj' => by
          rw [List.mem_cons] at hj'
          rcases hj' with rfl | hj'
          · omega
          · have := hj j hj'; omega⟩
theorem atB_iff (f t x : Int) : atB f t x = true ↔ (f ≤ x ∧ x < t) ∨ (f = x ∧ t = x) := by unfold atB; simp
theorem cnt_most (l : List IV) (x : Int) : cnt l x ≤ most l l := by
  by_cases h0 : l.filter (fun i => atB i.2.1 i.2.2 x) = []
  · have : cnt l x = 0 := by unfold cnt; rw [h0]; rfl
    have := most_nonneg l l
    omega
  · obtain ⟨i, hi, hj⟩ := last_begin _ h0
    rw [List.mem_filter] at hi
    refine Int.le_trans (cnt_mono l x i.2.1 fun j hjl hjx => ?_) (most_ge l l i hi.1)
    have h1 := hj j (List.mem_filter.2 ⟨hjl, hjx⟩)
    have h2 := (atB_iff _ _ _).1 hi.2
    have h3 := (atB_iff _ _ _).1 hjx
    rw [atB_iff]
    omega
theorem rmost_eq (l : List IV) : ∀ m : List IV, (∀ i ∈ m, i ∈ l) → rmost l m ≤ most l l ∧ most l m ≤ rmost l m := by
  suffices h : ∀ (m : List IV) (a b : Int), a ≤ most l l → b ≤ a → (m.foldl (fun a i => max (max a (cnt l i.2.1)) (cnt l i.2.2)) a) ≤ most l l ∧ m.foldl (fun a i => max a (cnt l i.2.1)) b ≤ m.foldl (fun a i => max (max a (cnt l i.2.1)) (cnt l i.2.2)) a by
    intro m _; exact h m 0 0 (most_nonneg l l) (Int.le_refl _)
  intro m
  induction m with
  | nil => intro a b h1 h2; exact ⟨h1, h2⟩
  | cons i m ih =>
    intro a b h1 h2
    rw [List.foldl_cons, List.foldl_cons]
    have h3 := cnt_most l i.2.1
    have h4 := cnt_most l i.2.2
    exact ih _ _ (by omega) (by omega)
theorem rmost_most (l : List IV) : rmost l l = most l l := by
  have := rmost_eq l l (fun _ h => h)
  omega
theorem take_snoc {l : List IV} {k : Nat} {i : IV} (h : l[k]? = some i) : l.take (k + 1) = l.take k ++ [i] := by rw [List.take_add_one, h]; rfl
theorem cnt_take {l : List IV} {k : Nat} {i : IV} (h : l[k]? = some i) (x : Int) : cnt (l.take (k + 1)) x = cnt (l.take k) x + if atB i.2.1 i.2.2 x = true then 1 else 0 := by rw [take_snoc h, cnt_snoc]
theorem cnt_bnd (l : List IV) (k : Nat) (x : Int) (h : l.length ≤ 1000) : 0 ≤ cnt (l.take k) x ∧ cnt (l.take k) x ≤ 1000 := by
  have h1 := cnt_le (l.take k) x
  have h2 : (l.take k).length ≤ l.length := by rw [List.length_take]; omega
  omega
noncomputable def f22b : Code := Try.f22.body.getD .skip
theorem f22_body : Try.f22.body = some f22b := by kernel_rfl
theorem f22_fn : T2.fn 22 = some Try.f22 := by kernel_rfl
noncomputable def f15b : Code := Try.f15.body.getD .skip
theorem f15_body : Try.f15.body = some f15b := by kernel_rfl
theorem f15_fn : T2.fn 15 = some Try.f15 := by kernel_rfl
noncomputable def f16b : Code := Try.f16.body.getD .skip
theorem f16_body : Try.f16.body = some f16b := by kernel_rfl
theorem f16_fn : T2.fn 16 = some Try.f16 := by kernel_rfl
theorem at_run {H : Heap} (a b c x : Int) : ACall Try.prog T2 22 #[.agg #[.int .i64 a, .int .i64 b, .int .i64 c], .int .i64 x] H fun r H' => r = .bool (atB b c x) ∧ Up H.n H H' := by
  refine acall_cf 27 (initTm 0 #[.agg #[.int .i64 a, .int .i64 b, .int .i64 c], .int .i64 x]) rfl f22_fn f22_body rfl rfl ?_
  refine cf_go 2 ?_
  obtain ⟨H1_, hH1_⟩ : ∃ x : Heap, x = H.push ⟨[Value.int .i64 a, .int .i64 b, .int .i64 c], 40, false⟩ := ⟨_, rfl⟩
  have nH1_ : H1_.n = H.n + 1 := by rw [hH1_]; rfl
  refine cf_val 2 (.pointer (some ⟨H.n, 0, none⟩)) H1_ (by kernel_rfl) ((by kernel_rfl : _ = some (Res.val (.pointer (some ⟨H.n, 0, none⟩)), H.push ⟨[Value.int .i64 a, .int .i64 b, .int .i64 c], 40, false⟩)).trans (by rw [← hH1_])) ?_
  refine cf_go 6 ?_
  have gH1_H_n : H1_.get (H.n) = some ⟨[Value.int .i64 a, .int .i64 b, .int .i64 c], 40, false⟩ := by rw [hH1_]; exact (Heap.get_push _ _ _).trans (if_pos rfl)
  refine cf_val 6 (.int .i64 b) H1_ (by kernel_rfl) ((by kernel_rfl : _ = val (aload T2 3 (.pointer (some ⟨H.n, 1, none⟩)) H1_) H1_).trans (val_of ((aload_at gH1_H_n).trans (by kernel_rfl)))) ?_
  refine cf_go 3 ?_
  rcases Bool.eq_false_or_eq_true ((decide ((b : Int) ≤ x))) with hc1 | hc1
  · skip
    refine cf_see 9 (.bool true) (see_bool (by kernel_rfl) hc1) ?_
    refine cf_go 1 ?_
    refine cf_val 11 (.int .i64 c) H1_ (by kernel_rfl) ((by kernel_rfl : _ = val (aload T2 3 (.pointer (some ⟨H.n, 2, none⟩)) H1_) H1_).trans (val_of ((aload_at gH1_H_n).trans (by kernel_rfl)))) ?_
    refine cf_go 4 ?_
    rcases Bool.eq_false_or_eq_true ((decide ((c : Int) > x))) with hc2 | hc2
    · skip
      refine cf_see 15 (.bool true) (see_bool (by kernel_rfl) hc2) ?_
      refine cf_go 15 ?_
      have hq : atB b c x = true := by
        rw [atB_iff]; simp only [decide_eq_true_eq, decide_eq_false_iff_not, beq_iff_eq, beq_eq_false_iff_ne, Bool.not_eq_true, ne_eq] at *; omega
      refine cf_end (.bool true) H1_ (by kernel_rfl) (by kernel_rfl) (by kernel_rfl) ?_
      exact ⟨by rw [hq], (show Up H.n H H1_ from ⟨by omega, fun b hb => by rw [hH1_, Heap.get_push, if_neg (by omega)]⟩)⟩
    · skip
      refine cf_see 15 (.bool false) (see_bool (by kernel_rfl) hc2) ?_
      refine cf_go 1 ?_
      refine cf_val 17 (.int .i64 b) H1_ (by kernel_rfl) ((by kernel_rfl : _ = val (aload T2 3 (.pointer (some ⟨H.n, 1, none⟩)) H1_) H1_).trans (val_of ((aload_at gH1_H_n).trans (by kernel_rfl)))) ?_
      refine cf_go 3 ?_
      rcases Bool.eq_false_or_eq_true (((b : Int) == x)) with hc3 | hc3
      · skip
        refine cf_see 20 (.bool true) (see_bool (by kernel_rfl) hc3) ?_
        refine cf_go 1 ?_
        refine cf_val 22 (.int .i64 c) H1_ (by kernel_rfl) ((by kernel_rfl : _ = val (aload T2 3 (.pointer (some ⟨H.n, 2, none⟩)) H1_) H1_).trans (val_of ((aload_at gH1_H_n).trans (by kernel_rfl)))) ?_
        refine cf_go 8 ?_
        have hq : atB b c x = ((c : Int) == x) := by rw [Bool.eq_iff_iff, atB_iff]; simp only [decide_eq_true_eq, decide_eq_false_iff_not, beq_iff_eq, beq_eq_false_iff_ne, Bool.not_eq_true, ne_eq] at *; omega
        refine cf_end (.bool ((c : Int) == x)) H1_ (by kernel_rfl) (by kernel_rfl) (by kernel_rfl) ?_
        exact ⟨by rw [hq], (show Up H.n H H1_ from ⟨by omega, fun b hb => by rw [hH1_, Heap.get_push, if_neg (by omega)]⟩)⟩
      · skip
        refine cf_see 20 (.bool false) (see_bool (by kernel_rfl) hc3) ?_
        refine cf_go 10 ?_
        have hq : atB b c x = false := by
          refine Bool.eq_false_iff.2 fun h9 => ?_
          rw [atB_iff] at h9; simp only [decide_eq_true_eq, decide_eq_false_iff_not, beq_iff_eq, beq_eq_false_iff_ne, Bool.not_eq_true, ne_eq] at *; omega
        refine cf_end (.bool false) H1_ (by kernel_rfl) (by kernel_rfl) (by kernel_rfl) ?_
        exact ⟨by rw [hq], (show Up H.n H H1_ from ⟨by omega, fun b hb => by rw [hH1_, Heap.get_push, if_neg (by omega)]⟩)⟩
  · skip
    refine cf_see 9 (.bool false) (see_bool (by kernel_rfl) hc1) ?_
    refine cf_go 7 ?_
    refine cf_val 17 (.int .i64 b) H1_ (by kernel_rfl) ((by kernel_rfl : _ = val (aload T2 3 (.pointer (some ⟨H.n, 1, none⟩)) H1_) H1_).trans (val_of ((aload_at gH1_H_n).trans (by kernel_rfl)))) ?_
    refine cf_go 3 ?_
    rcases Bool.eq_false_or_eq_true (((b : Int) == x)) with hc4 | hc4
    · skip
      refine cf_see 20 (.bool true) (see_bool (by kernel_rfl) hc4) ?_
      refine cf_go 1 ?_
      refine cf_val 22 (.int .i64 c) H1_ (by kernel_rfl) ((by kernel_rfl : _ = val (aload T2 3 (.pointer (some ⟨H.n, 2, none⟩)) H1_) H1_).trans (val_of ((aload_at gH1_H_n).trans (by kernel_rfl)))) ?_
      refine cf_go 8 ?_
      have hq : atB b c x = ((c : Int) == x) := by rw [Bool.eq_iff_iff, atB_iff]; simp only [decide_eq_true_eq, decide_eq_false_iff_not, beq_iff_eq, beq_eq_false_iff_ne, Bool.not_eq_true, ne_eq] at *; omega
      refine cf_end (.bool ((c : Int) == x)) H1_ (by kernel_rfl) (by kernel_rfl) (by kernel_rfl) ?_
      exact ⟨by rw [hq], (show Up H.n H H1_ from ⟨by omega, fun b hb => by rw [hH1_, Heap.get_push, if_neg (by omega)]⟩)⟩
    · skip
      refine cf_see 20 (.bool false) (see_bool (by kernel_rfl) hc4) ?_
      refine cf_go 10 ?_
      have hq : atB b c x = false := by
        refine Bool.eq_false_iff.2 fun h9 => ?_
        rw [atB_iff] at h9; simp only [decide_eq_true_eq, decide_eq_false_iff_not, beq_iff_eq, beq_eq_false_iff_ne, Bool.not_eq_true, ne_eq] at *; omega
      refine cf_end (.bool false) H1_ (by kernel_rfl) (by kernel_rfl) (by kernel_rfl) ?_
      exact ⟨by rw [hq], (show Up H.n H H1_ from ⟨by omega, fun b hb => by rw [hH1_, Heap.get_push, if_neg (by omega)]⟩)⟩
theorem press_run {H : Heap} {l : List IV} {pt : Option Addr} {cap lo : Nat} (hlen : l.length ≤ 1000) (hg : Gr H lo 40 3 (.slice pt l.length cap) l.length (ivs l)) : ACall Try.prog T2 15 #[(.slice pt l.length cap)] H fun r H' => r = .int .i64 (most l l) ∧ Up H.n H H' := by
  refine acall_cf 33 (initTm 0 #[(.slice pt l.length cap)]) rfl f15_fn f15_body rfl rfl ?_
  refine cf_go 19 ?_
  refine cf_loop 33 (cl (cl (cr (cl (cr (cr f15b)))))) [.blk 0, .next (cr (cr (cr f15b)))] (by kernel_rfl) (by kernel_rfl) (by kernel_rfl) (fun m9 s9 => ∃ (k : Nat) (H1 : Heap), m9 = l.length - k ∧ k ≤ l.length ∧ Up H.n H H1 ∧ Kn s9.tm [(0, (.slice pt l.length cap)), (2, .int .i64 0), (3, .int .i64 (most l (l.take k))), (9, (.slice pt l.length cap)), (10, .int .i64 ((l.length : Nat) : Int)), (11, .int .i64 ((k : Nat) : Int))] ∧ s9.H = H1) (l.length) ⟨0, H, by omega, by omega, (Up.refl H : Up H.n H H), ⟨(by kernel_rfl), (by kernel_rfl), (by kernel_rfl), (by kernel_rfl), (by kernel_rfl), (by kernel_rfl), True.intro⟩, (by kernel_rfl)⟩ ?_
  rintro m9 s9 ⟨k, H1, hm, hk, uH1, hkn, hH⟩ Rr1 hRr1
  refine cf_kn [(0, (.slice pt l.length cap)), (2, .int .i64 0), (3, .int .i64 (most l (l.take k))), (9, (.slice pt l.length cap)), (10, .int .i64 ((l.length : Nat) : Int)), (11, .int .i64 ((k : Nat) : Int))] hkn hH fun tm => ?_
  have nH1 := uH1.n
  by_cases hlt : k < l.length
  · skip
    obtain ⟨i, hi⟩ : ∃ i, l[k]? = some i := ⟨_, List.getElem?_eq_getElem hlt⟩
    rcases hg.at_ with ⟨_, h0⟩ | ⟨B0, heB, gB0, hB0, _⟩
    · omega
    obtain ⟨rfl, rfl⟩ : pt = some ⟨B0, 0, none⟩ ∧ cap = unk + 3 := by injection heB with e1 _ e3; exact ⟨e1, e3⟩
    refine cf_go 3 ?_
    refine cf_see 12 (.bool true) (see_bool (by kernel_rfl) ((decide_eq_true (by omega)) : ((decide (((k : Nat) : Int) < ((l.length : Nat) : Int)))) = true)) ?_
    refine cf_go 10 ?_
    refine cf_val 13 (.pointer (some ⟨B0, 0 + k * 3, none⟩)) H1 (by kernel_rfl) ((by kernel_rfl : _ = val (bif (k : Nat).blt l.length then some (.pointer (some ⟨B0, 0 + k * 3, none⟩)) else none) H1).trans (by rw [show (k : Nat).blt l.length = true from (by rw [blt_dec]; simp only [decide_eq_true_eq]; omega)]; rfl)) ?_
    have gH1B0 : H1.get (B0) = some ⟨(ivs l), 40, false⟩ := by rw [uH1.get _ (by omega)]; exact gB0
    refine cf_val 14 (.agg #[.int .i64 i.1, .int .i64 i.2.1, .int .i64 i.2.2]) H1 (by kernel_rfl) ((by kernel_rfl : _ = val (aload T2 40 (.pointer (some ⟨B0, 0 + k * 3, none⟩)) H1) H1).trans (val_of ((aload_at gH1B0).trans (aloadC_rowB (n := 3) (l := ivC i) (by kernel_rfl) (by kernel_rfl) (by kernel_rfl) (ivs_at l k _ hi))))) ?_
    obtain ⟨H1_, hH1_⟩ : ∃ x : Heap, x = H1.push ⟨[Value.int .i64 0, .int .i64 0, .int .i64 0], 40, false⟩ := ⟨_, rfl⟩
    have nH1_ : H1_.n = H1.n + 1 := by rw [hH1_]; rfl
    refine cf_val 5 (.pointer (some ⟨H1.n, 0, none⟩)) H1_ (by kernel_rfl) ((by kernel_rfl : _ = some (Res.val (.pointer (some ⟨H1.n, 0, none⟩)), H1.push ⟨[Value.int .i64 0, .int .i64 0, .int .i64 0], 40, false⟩)).trans (by rw [← hH1_])) ?_
    have gH1_H1_n : H1_.get (H1.n) = some ⟨[Value.int .i64 0, .int .i64 0, .int .i64 0], 40, false⟩ := by rw [hH1_]; exact (Heap.get_push _ _ _).trans (if_pos rfl)
    obtain ⟨H2_, hH2_⟩ : ∃ x : Heap, x = H1_.put (H1.n) ⟨[Value.int .i64 i.1, .int .i64 i.2.1, .int .i64 i.2.2], 40, false⟩ := ⟨_, rfl⟩
    have nH2_ : H2_.n = H1_.n := by rw [hH2_]; rfl
    refine cf_skip H2_ (by kernel_rfl) ((by kernel_rfl : _ = skp (astore T2 40 (.pointer (some ⟨H1.n, 0, none⟩)) (.agg #[.int .i64 i.1, .int .i64 i.2.1, .int .i64 i.2.2]) H1_)).trans (by rw [astore_to gH1_H1_n (by kernel_rfl), ← hH2_]; rfl)) ?_
    refine cf_go 16 ?_
    have gH2_H1_n : H2_.get (H1.n) = some ⟨[Value.int .i64 i.1, .int .i64 i.2.1, .int .i64 i.2.2], 40, false⟩ := by rw [hH2_]; exact (Heap.get_put _ _ _ _).trans (if_pos rfl)
    obtain ⟨X, hX⟩ : ∃ D, D = H1.n := ⟨_, rfl⟩
    rw [← hX] at gH2_H1_n
    refine cf_loop 33 (cl (cl (cr (cl (cr (cr (cl (cl (cr (cr (cl (cl (cr (cl (cr (cr f15b)))))))))))))))) [.blk 2, .next (cr (cr (cr (cl (cl (cr (cr (cl (cl (cr (cl (cr (cr f15b))))))))))))), .blk 1, .next (cr (cr (cr (cl (cl (cr (cl (cr (cr f15b))))))))), .inv Rr1, .blk 0, .next (cr (cr (cr f15b)))] (by kernel_rfl) (by kernel_rfl) (by kernel_rfl) (fun m9 s9 => ∃ (j : Nat) (H2 : Heap), m9 = l.length - j ∧ j ≤ l.length ∧ H2.get X = some ⟨[Value.int .i64 i.1, .int .i64 i.2.1, .int .i64 i.2.2], 40, false⟩ ∧ H.n ≤ X ∧ X < H2.n ∧ Up H.n H H2 ∧ Kn s9.tm [(0, .slice (some ⟨B0, 0, none⟩) l.length (unk + 3)), (2, .int .i64 0), (3, .int .i64 (most l (l.take k))), (5, .pointer (some ⟨X, 0, none⟩)), (6, .int .i64 (cnt (l.take j) i.2.1)), (9, .slice (some ⟨B0, 0, none⟩) l.length (unk + 3)), (10, .int .i64 ((l.length : Nat) : Int)), (11, .int .i64 ((k : Nat) : Int)), (15, .slice (some ⟨B0, 0, none⟩) l.length (unk + 3)), (16, .int .i64 ((l.length : Nat) : Int)), (17, .int .i64 ((j : Nat) : Int))] ∧ s9.H = H2) (l.length) ⟨0, H2_, by omega, by omega, gH2_H1_n, by omega, by omega, (show Up H.n H H2_ from ⟨by omega, fun b hb => by rw [hH2_, Heap.get_put, if_neg (by omega), hH1_, Heap.get_push, if_neg (by omega), uH1.get _ (by omega)]⟩), ⟨(by kernel_rfl), (by kernel_rfl), (by kernel_rfl), (by rw [hX]; kernel_rfl), (by kernel_rfl), (by kernel_rfl), (by kernel_rfl), (by kernel_rfl), (by kernel_rfl), (by kernel_rfl), (by kernel_rfl), True.intro⟩, (by kernel_rfl)⟩ ?_
    rintro m9 s9 ⟨j, H2, hm2, hj, gX, bX1, bX2, uH2, hkn, hH⟩ Rr2 hRr2
    refine cf_kn [(0, .slice (some ⟨B0, 0, none⟩) l.length (unk + 3)), (2, .int .i64 0), (3, .int .i64 (most l (l.take k))), (5, .pointer (some ⟨X, 0, none⟩)), (6, .int .i64 (cnt (l.take j) i.2.1)), (9, .slice (some ⟨B0, 0, none⟩) l.length (unk + 3)), (10, .int .i64 ((l.length : Nat) : Int)), (11, .int .i64 ((k : Nat) : Int)), (15, .slice (some ⟨B0, 0, none⟩) l.length (unk + 3)), (16, .int .i64 ((l.length : Nat) : Int)), (17, .int .i64 ((j : Nat) : Int))] hkn hH fun tm => ?_
    have nH2 := uH2.n
    have hcb := cnt_bnd l j i.2.1 hlen
    by_cases hlt2 : j < l.length
    · skip
      obtain ⟨b, hb⟩ : ∃ i, l[j]? = some i := ⟨_, List.getElem?_eq_getElem hlt2⟩
      refine cf_go 3 ?_
      refine cf_see 18 (.bool true) (see_bool (by kernel_rfl) ((decide_eq_true (by omega)) : ((decide (((j : Nat) : Int) < ((l.length : Nat) : Int)))) = true)) ?_
      refine cf_go 10 ?_
      refine cf_val 19 (.pointer (some ⟨B0, 0 + j * 3, none⟩)) H2 (by kernel_rfl) ((by kernel_rfl : _ = val (bif (j : Nat).blt l.length then some (.pointer (some ⟨B0, 0 + j * 3, none⟩)) else none) H2).trans (by rw [show (j : Nat).blt l.length = true from (by rw [blt_dec]; simp only [decide_eq_true_eq]; omega)]; rfl)) ?_
      have gH2B0 : H2.get (B0) = some ⟨(ivs l), 40, false⟩ := by rw [uH2.get _ (by omega)]; exact gB0
      refine cf_val 20 (.agg #[.int .i64 b.1, .int .i64 b.2.1, .int .i64 b.2.2]) H2 (by kernel_rfl) ((by kernel_rfl : _ = val (aload T2 40 (.pointer (some ⟨B0, 0 + j * 3, none⟩)) H2) H2).trans (val_of ((aload_at gH2B0).trans (aloadC_rowB (n := 3) (l := ivC b) (by kernel_rfl) (by kernel_rfl) (by kernel_rfl) (ivs_at l j _ hb))))) ?_
      obtain ⟨H3_, hH3_⟩ : ∃ x : Heap, x = H2.push ⟨[Value.int .i64 0, .int .i64 0, .int .i64 0], 40, false⟩ := ⟨_, rfl⟩
      have nH3_ : H3_.n = H2.n + 1 := by rw [hH3_]; rfl
      refine cf_val 8 (.pointer (some ⟨H2.n, 0, none⟩)) H3_ (by kernel_rfl) ((by kernel_rfl : _ = some (Res.val (.pointer (some ⟨H2.n, 0, none⟩)), H2.push ⟨[Value.int .i64 0, .int .i64 0, .int .i64 0], 40, false⟩)).trans (by rw [← hH3_])) ?_
      have gH3_H2_n : H3_.get (H2.n) = some ⟨[Value.int .i64 0, .int .i64 0, .int .i64 0], 40, false⟩ := by rw [hH3_]; exact (Heap.get_push _ _ _).trans (if_pos rfl)
      obtain ⟨H4_, hH4_⟩ : ∃ x : Heap, x = H3_.put (H2.n) ⟨[Value.int .i64 b.1, .int .i64 b.2.1, .int .i64 b.2.2], 40, false⟩ := ⟨_, rfl⟩
      have nH4_ : H4_.n = H3_.n := by rw [hH4_]; rfl
      refine cf_skip H4_ (by kernel_rfl) ((by kernel_rfl : _ = skp (astore T2 40 (.pointer (some ⟨H2.n, 0, none⟩)) (.agg #[.int .i64 b.1, .int .i64 b.2.1, .int .i64 b.2.2]) H3_)).trans (by rw [astore_to gH3_H2_n (by kernel_rfl), ← hH4_]; rfl)) ?_
      refine cf_go 4 ?_
      have gH4_H2_n : H4_.get (H2.n) = some ⟨[Value.int .i64 b.1, .int .i64 b.2.1, .int .i64 b.2.2], 40, false⟩ := by rw [hH4_]; exact (Heap.get_put _ _ _ _).trans (if_pos rfl)
      refine cf_val 21 (.agg #[.int .i64 b.1, .int .i64 b.2.1, .int .i64 b.2.2]) H4_ (by kernel_rfl) ((by kernel_rfl : _ = val (aload T2 40 (.pointer (some ⟨H2.n, 0, none⟩)) H4_) H4_).trans (val_of ((aload_at gH4_H2_n).trans (by kernel_rfl)))) ?_
      refine cf_go 1 ?_
      have gH4_X : H4_.get (X) = some ⟨[Value.int .i64 i.1, .int .i64 i.2.1, .int .i64 i.2.2], 40, false⟩ := by rw [hH4_, Heap.get_put, if_neg (by omega)]; rw [hH3_, Heap.get_push, if_neg (by omega)]; exact gX
      refine cf_val 23 (.int .i64 i.2.1) H4_ (by kernel_rfl) ((by kernel_rfl : _ = val (aload T2 3 (.pointer (some ⟨X, 1, none⟩)) H4_) H4_).trans (val_of ((aload_at gH4_X).trans (by kernel_rfl)))) ?_
      refine cf_call 24 22 #[.agg #[.int .i64 b.1, .int .i64 b.2.1, .int .i64 b.2.2], .int .i64 i.2.1] H4_ (by kernel_rfl) (by kernel_rfl) (by kernel_rfl) (at_run b.1 b.2.1 b.2.2 i.2.1) ?_
      rintro _ H5_ ⟨rfl, uH5_⟩
      have nH5_ := uH5_.n
      refine cf_go 2 ?_
      rcases Bool.eq_false_or_eq_true ((atB b.2.1 b.2.2 i.2.1)) with hc1 | hc1
      · skip
        refine cf_see 24 (.bool true) (see_bool (by kernel_rfl) hc1) ?_
        refine cf_go 4 ?_
        refine cf_see 26 (.int .i64 (cnt (l.take (j + 1)) i.2.1)) (see_int (x := (IntKind.i64.wrap ((cnt (l.take j) i.2.1) + 1))) (by kernel_rfl) (w64 (by rw [cnt_take hb, hc1]; rfl) (by have := cnt_bnd l (j + 1) i.2.1 hlen; omega) (by have := cnt_bnd l (j + 1) i.2.1 hlen; omega))) ?_
        refine cf_go 6 ?_
        refine cf_see 27 (.int .i64 ((j + 1 : Nat) : Int)) (see_int (x := (IntKind.i64.wrap (((j : Nat) : Int) + 1))) (by kernel_rfl) (w64 (by omega) (by omega) (by omega))) ?_
        refine cf_go 2 ?_
        have gH5_X : H5_.get (X) = some ⟨[Value.int .i64 i.1, .int .i64 i.2.1, .int .i64 i.2.2], 40, false⟩ := by rw [uH5_.get _ (by omega)]; exact gH4_X
        refine cf_inv Rr2 (by kernel_rfl) (hRr2 _ ⟨l.length - (j + 1), by omega, j + 1, H5_, rfl, by omega, gH5_X, by omega, by omega, (show Up H.n H H5_ from ⟨by omega, fun b hb => by rw [uH5_.get _ (by omega), hH4_, Heap.get_put, if_neg (by omega), hH3_, Heap.get_push, if_neg (by omega), uH2.get _ (by omega)]⟩), ⟨(by kernel_rfl), (by kernel_rfl), (by kernel_rfl), (by kernel_rfl), (by kernel_rfl), (by kernel_rfl), (by kernel_rfl), (by kernel_rfl), (by kernel_rfl), (by kernel_rfl), (by kernel_rfl), True.intro⟩, (by kernel_rfl)⟩)
      · skip
        refine cf_see 24 (.bool false) (see_bool (by kernel_rfl) hc1) ?_
        refine cf_go 6 ?_
        refine cf_see 27 (.int .i64 ((j + 1 : Nat) : Int)) (see_int (x := (IntKind.i64.wrap (((j : Nat) : Int) + 1))) (by kernel_rfl) (w64 (by omega) (by omega) (by omega))) ?_
        refine cf_go 2 ?_
        have gH5_X : H5_.get (X) = some ⟨[Value.int .i64 i.1, .int .i64 i.2.1, .int .i64 i.2.2], 40, false⟩ := by rw [uH5_.get _ (by omega)]; exact gH4_X
        have hcs : cnt (l.take (j + 1)) i.2.1 = cnt (l.take j) i.2.1 := by rw [cnt_take hb, hc1]; simp
        refine cf_inv Rr2 (by kernel_rfl) (hRr2 _ ⟨l.length - (j + 1), by omega, j + 1, H5_, rfl, by omega, gH5_X, by omega, by omega, (show Up H.n H H5_ from ⟨by omega, fun b hb => by rw [uH5_.get _ (by omega), hH4_, Heap.get_put, if_neg (by omega), hH3_, Heap.get_push, if_neg (by omega), uH2.get _ (by omega)]⟩), ⟨(by kernel_rfl), (by kernel_rfl), (by kernel_rfl), (by kernel_rfl), (by rw [hcs]; kernel_rfl), (by kernel_rfl), (by kernel_rfl), (by kernel_rfl), (by kernel_rfl), (by kernel_rfl), (by kernel_rfl), True.intro⟩, (by kernel_rfl)⟩)
    · skip
      obtain rfl : j = l.length := by omega
      have hcl : cnt (l.take l.length) i.2.1 = cnt l i.2.1 := by rw [List.take_length]
      refine cf_go 3 ?_
      refine cf_see 18 (.bool false) (see_bool (by kernel_rfl) ((decide_eq_false (by omega)) : ((decide (((l.length : Nat) : Int) < ((l.length : Nat) : Int)))) = false)) ?_
      refine cf_go 13 ?_
      refine cf_see 30 (.int .i64 (most l (l.take (k + 1)))) (see_int (x := (if (cnt (l.take l.length) i.2.1) > (most l (l.take k)) then (cnt (l.take l.length) i.2.1) else (most l (l.take k)))) (by kernel_rfl) (by rw [take_snoc hi, most_snoc, ← hcl]; split <;> omega)) ?_
      refine cf_go 6 ?_
      refine cf_see 31 (.int .i64 ((k + 1 : Nat) : Int)) (see_int (x := (IntKind.i64.wrap (((k : Nat) : Int) + 1))) (by kernel_rfl) (w64 (by omega) (by omega) (by omega))) ?_
      refine cf_go 2 ?_
      refine cf_inv Rr1 (by kernel_rfl) (hRr1 _ ⟨l.length - (k + 1), by omega, k + 1, H2, rfl, by omega, (show Up H.n H H2 from ⟨by omega, fun b hb => by rw [uH2.get _ (by omega)]⟩), ⟨(by kernel_rfl), (by kernel_rfl), (by kernel_rfl), (by kernel_rfl), (by kernel_rfl), (by kernel_rfl), True.intro⟩, (by kernel_rfl)⟩)
  · skip
    obtain rfl : k = l.length := by omega
    refine cf_go 3 ?_
    refine cf_see 12 (.bool false) (see_bool (by kernel_rfl) ((decide_eq_false (by omega)) : ((decide (((l.length : Nat) : Int) < ((l.length : Nat) : Int)))) = false)) ?_
    refine cf_go 16 ?_
    refine cf_end (.int .i64 (most l (l.take l.length))) H1 (by kernel_rfl) (by kernel_rfl) (by kernel_rfl) ?_
    exact ⟨by rw [List.take_length], (show Up H.n H H1 from ⟨by omega, fun b hb => by rw [uH1.get _ (by omega)]⟩)⟩
end Lm
end Go.Proofs.Ytahikechkggbfaa
