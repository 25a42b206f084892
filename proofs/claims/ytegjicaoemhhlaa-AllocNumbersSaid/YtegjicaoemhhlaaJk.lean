/- Chapter 21: intervals that meet; the lowest place that is free. -/
import Derived.Test.YtegjicaoemhhlaaJl
namespace Go.Proofs.Ytegjicaoemhhlaa
open Go Go.Ev Go.RowKit
set_option linter.unusedVariables false
set_option linter.unusedSimpArgs false
set_option maxRecDepth 100000
namespace Ls
theorem foundB {n : Nat} {f : Nat → Bool} {k : Nat} (hk : k < n) (hf : f k = true) (ha : ∀ j, j < k → f j = false) : (List.range n).find? f = some k := by
 refine List.find?_eq_some_iff_getElem.2 ⟨hf, k, by simpa using hk, by simp, fun j hj => ?_⟩
 simp [ha j hj]
def freeK (l : List IV) (pl : List Int) (n : Nat) : Nat := ((List.range (pl.length + 1)).find? fun (k : Nat) => !takenB l pl n (k : Int) pl.length).getD 0
theorem FreeP.eq {l : List IV} {pl : List Int} {n k : Nat} (h : FreeP l pl n k) : k = freeK l pl n := by
 unfold freeK
 rw [foundB (k := k) (by have := h.le; omega) (by rw [h.no]; rfl) fun j hj => by rw [h.all j hj]; rfl]
 rfl
theorem freeK_ok (l : List IV) (pl : List Int) (n : Nat) : FreeP l pl n (freeK l pl n) := by
 have hx : ∃ k : Nat, k ≤ pl.length ∧ takenB l pl n (k : Int) pl.length = false := by
  refine Classical.byContradiction fun hc => ?_
  have : pl.length + 1 ≤ pl.length := taken_le (l := l) (n := n) fun k hk => by
   cases h : takenB l pl n (k : Int) pl.length with
   | true => rfl
   | false => exact absurd ⟨k, by omega, h⟩ hc
  omega
 have : ∀ (m k : Nat), k ≤ m → takenB l pl n (k : Int) pl.length = false → ∃ k, FreeP l pl n k := by
  intro m
  induction m with
  | zero => intro k hk h; exact ⟨k, h, fun j hj => by omega⟩
  | succ m ih =>
   intro k hk h
   by_cases q : ∀ j, j < k → takenB l pl n (j : Int) pl.length = true
   ·exact ⟨k, h, q⟩
   ·obtain ⟨j, q⟩ := Classical.not_forall.1 q
    obtain ⟨hj, q⟩ := Classical.not_imp.1 q
    exact ih j (by omega) (by simpa using q)
 obtain ⟨k, hk, h⟩ := hx
 obtain ⟨k', h'⟩ := this k k (Nat.le_refl _) h
 rw [← h'.eq]; exact h'
theorem freeK_le (l : List IV) (pl : List Int) (n : Nat) : freeK l pl n ≤ pl.length := (freeK_ok l pl n).le
theorem all_succ {l : List IV} {pl : List Int} {n k N : Nat} (h : ∀ j, j < k → takenB l pl n (j : Int) N = true) (hk : takenB l pl n (k : Int) N = true) : ∀ j, j < k + 1 → takenB l pl n (j : Int) N = true := fun j hj => by
 rcases Nat.lt_or_eq_of_le (Nat.le_of_lt_succ hj) with q | rfl
 ·exact h j q
 ·exact hk
theorem takenB_yes {l : List IV} {pl : List Int} {n : Nat} {k : Int} {j : Nat} (h : takenB l pl n k j = true) : takenB l pl n k (j + 1) = true := by rw [takenB_succ, h]; rfl
theorem takenB_no {l : List IV} {pl : List Int} {n : Nat} {k : Int} {j : Nat} {x : Int} (hx : pl[j]? = some x) (h : takenB l pl n k j = false) (hk : x ≠ k) : takenB l pl n k (j + 1) = false := by
 rw [takenB_succ, h, hx]; simp [hk]
theorem takenB_at {l : List IV} {pl : List Int} {n : Nat} {k : Int} {j : Nat} {a b : IV} (hx : pl[j]? = some k) (h : takenB l pl n k j = false) (ha : l[j]? = some a) (hb : l[n]? = some b) : takenB l pl n k (j + 1) = meetB a b := by
 rw [takenB_succ, h, hx]; simp [meetN, ha, hb]
theorem row_of {α : Type} {l : List α} {i m : Nat} (h : m = l.length) (hi : i < m) : ∃ a, l[i]? = some a := ⟨_, List.getElem?_eq_getElem (by omega)⟩
noncomputable def f28b : Code := Try.f28.body.getD .skip
theorem f28_body : Try.f28.body = some f28b := by kernel_rfl
theorem f28_fn : T16.fn 28 = some Try.f28 := by kernel_rfl
theorem meetL_s {va a b vc c d : Int}  : SCall Try.prog T16 28 #[.agg #[.int .i64 va, .int .i64 a, .int .i64 b], .agg #[.int .i64 vc, .int .i64 c, .int .i64 d]] (hq []) fun v h => v = .bool (meetB (va, a, b) (vc, c, d)) ∧ h = hq [] := by
 refine scall_sd 24 _ 0 kr f28_fn f28_body rfl rfl rfl fun X hX => ?_
 refine sd_run 15 ?_
 rcases Bool.eq_false_or_eq_true (decide ((a : Int) < d)) with hc1 | hc1
 ·skip
  refine sd_see 10 (.bool true) (see_bool kr hc1) (sd_run 7 ?_)
  rcases Bool.eq_false_or_eq_true (decide ((c : Int) < b)) with hc2 | hc2
  ·skip
   refine sd_see 17 (.bool true) (see_bool kr hc2) (sd_run 10 ?_)
   simp only [bd] at hc1 hc2
   refine sdY (.bool true) hX [] [] True.intro ⟨(by congr 1; unfold meetB; rw [Bool.eq_iff_iff]; simp; try omega), rfl⟩
  ·skip
   refine sd_see 17 (.bool false) (see_bool kr hc2) (sd_run 10 ?_)
   rcases Bool.eq_false_or_eq_true ((a : Int) == c) with hc3 | hc3
   ·skip
    refine sd_see 4 (.bool true) (see_bool kr hc3) ?_
    simp only [bd] at hc1 hc2 hc3
    refine sdY (.bool true) hX [] [] True.intro ⟨(by congr 1; unfold meetB; rw [Bool.eq_iff_iff]; simp; try omega), rfl⟩
   ·skip
    refine sd_see 4 (.bool false) (see_bool kr hc3) ?_
    simp only [bd] at hc1 hc2 hc3
    refine sdY (.bool false) hX [] [] True.intro ⟨(by congr 1; unfold meetB; rw [Bool.eq_iff_iff]; simp; try omega), rfl⟩
 ·skip
  refine sd_see 10 (.bool false) (see_bool kr hc1) (sd_run 17 ?_)
  rcases Bool.eq_false_or_eq_true ((a : Int) == c) with hc4 | hc4
  ·skip
   refine sd_see 4 (.bool true) (see_bool kr hc4) ?_
   simp only [bd] at hc1 hc4
   refine sdY (.bool true) hX [] [] True.intro ⟨(by congr 1; unfold meetB; rw [Bool.eq_iff_iff]; simp; try omega), rfl⟩
  ·skip
   refine sd_see 4 (.bool false) (see_bool kr hc4) ?_
   simp only [bd] at hc1 hc4
   refine sdY (.bool false) hX [] [] True.intro ⟨(by congr 1; unfold meetB; rw [Bool.eq_iff_iff]; simp; try omega), rfl⟩
noncomputable def f18b : Code := Try.f18.body.getD .skip
theorem f18_body : Try.f18.body = some f18b := by kernel_rfl
theorem f18_fn : T16.fn 18 = some Try.f18 := by kernel_rfl
theorem meetR_s {va a b vc c d : Int}  : SCall Try.prog T16 18 #[.agg #[.int .i64 va, .int .i64 a, .int .i64 b], .agg #[.int .i64 vc, .int .i64 c, .int .i64 d]] (hq []) fun v h => v = .bool (meetB (va, a, b) (vc, c, d)) ∧ h = hq [] := by
 refine scall_sd 24 _ 0 kr f18_fn f18_body rfl rfl rfl fun X hX => ?_
 refine sd_run 15 ?_
 rcases Bool.eq_false_or_eq_true (decide ((a : Int) < d)) with hc1 | hc1
 ·skip
  refine sd_see 10 (.bool true) (see_bool kr hc1) (sd_run 7 ?_)
  rcases Bool.eq_false_or_eq_true (decide ((c : Int) < b)) with hc2 | hc2
  ·skip
   refine sd_see 17 (.bool true) (see_bool kr hc2) (sd_run 10 ?_)
   simp only [bd] at hc1 hc2
   refine sdY (.bool true) hX [] [] True.intro ⟨(by congr 1; unfold meetB; rw [Bool.eq_iff_iff]; simp; try omega), rfl⟩
  ·skip
   refine sd_see 17 (.bool false) (see_bool kr hc2) (sd_run 10 ?_)
   rcases Bool.eq_false_or_eq_true ((a : Int) == c) with hc3 | hc3
   ·skip
    refine sd_see 4 (.bool true) (see_bool kr hc3) ?_
    simp only [bd] at hc1 hc2 hc3
    refine sdY (.bool true) hX [] [] True.intro ⟨(by congr 1; unfold meetB; rw [Bool.eq_iff_iff]; simp; try omega), rfl⟩
   ·skip
    refine sd_see 4 (.bool false) (see_bool kr hc3) ?_
    simp only [bd] at hc1 hc2 hc3
    refine sdY (.bool false) hX [] [] True.intro ⟨(by congr 1; unfold meetB; rw [Bool.eq_iff_iff]; simp; try omega), rfl⟩
 ·skip
  refine sd_see 10 (.bool false) (see_bool kr hc1) (sd_run 17 ?_)
  rcases Bool.eq_false_or_eq_true ((a : Int) == c) with hc4 | hc4
  ·skip
   refine sd_see 4 (.bool true) (see_bool kr hc4) ?_
   simp only [bd] at hc1 hc4
   refine sdY (.bool true) hX [] [] True.intro ⟨(by congr 1; unfold meetB; rw [Bool.eq_iff_iff]; simp; try omega), rfl⟩
  ·skip
   refine sd_see 4 (.bool false) (see_bool kr hc4) ?_
   simp only [bd] at hc1 hc4
   refine sdY (.bool false) hX [] [] True.intro ⟨(by congr 1; unfold meetB; rw [Bool.eq_iff_iff]; simp; try omega), rfl⟩
noncomputable def f24b : Code := Try.f24.body.getD .skip
theorem f24_body : Try.f24.body = some f24b := by kernel_rfl
theorem f24_fn : T16.fn 24 = some Try.f24 := by kernel_rfl
theorem reg_s {n : Int}  : SCall Try.prog T16 24 #[.int .i64 n] (hq []) fun v h => v = .bool (decide (1 ≤ n) && decide (n ≤ 16)) ∧ h = hq [] := by
 refine scall_sd 9 _ 0 kr f24_fn f24_body rfl rfl rfl fun X hX => ?_
 refine sd_run 10 ?_
 rcases Bool.eq_false_or_eq_true (decide ((n : Int) ≥ 1)) with hc1 | hc1
 ·skip
  refine sd_see 5 (.bool true) (see_bool kr hc1) (sd_run 7 ?_)
  rcases Bool.eq_false_or_eq_true (decide ((n : Int) ≤ 16)) with hc2 | hc2
  ·skip
   refine sd_see 2 (.bool true) (see_bool kr hc2) ?_
   simp only [bd] at hc1 hc2
   refine sdY (.bool true) hX [] [] True.intro ⟨(by congr 1; rw [Bool.eq_iff_iff]; simp; try omega), rfl⟩
  ·skip
   refine sd_see 2 (.bool false) (see_bool kr hc2) ?_
   simp only [bd] at hc1 hc2
   refine sdY (.bool false) hX [] [] True.intro ⟨(by congr 1; rw [Bool.eq_iff_iff]; simp; try omega), rfl⟩
 ·skip
  refine sd_see 5 (.bool false) (see_bool kr hc1) (sd_run 7 ?_)
  simp only [bd] at hc1
  refine sdY (.bool false) hX [] [] True.intro ⟨(by congr 1; rw [Bool.eq_iff_iff]; simp; try omega), rfl⟩
noncomputable def f27b : Code := Try.f27.body.getD .skip
theorem f27_body : Try.f27.body = some f27b := by kernel_rfl
theorem f27_fn : T16.fn 27 = some Try.f27 := by kernel_rfl
theorem free1_s {rg sl : List Int} {l : List IV} {n m : Nat} {slots : Int} (hr : m = rg.length) (hs : m = sl.length) (hl : m = l.length) (hn : n < m) (hml : m < 1099511627776) : SCall Try.prog T16 27 #[.pointer (some ⟨0, 0, none⟩), .slice (some ⟨1, 0, none⟩) m m, .int .i64 (n : Int)] (hq [some ⟨[Value.slice (some ⟨1, 0, none⟩) m m, .slice (some ⟨2, 0, none⟩) m m, .int .i64 slots, .slice (some ⟨3, 0, none⟩) m (unk + 3)], 68, false⟩, (inCo rg false), (inCo sl false), (ivCo l false)]) fun v h => v = .int .i64 (((freeK l rg n) : Nat) : Int) ∧ h = hq [some ⟨[Value.slice (some ⟨1, 0, none⟩) m m, .slice (some ⟨2, 0, none⟩) m m, .int .i64 slots, .slice (some ⟨3, 0, none⟩) m (unk + 3)], 68, false⟩, (inCo rg false), (inCo sl false), (ivCo l false)] := by
 refine scall_sd 47 _ 4 kr f27_fn f27_body rfl rfl rfl fun X hX => ?_
 refine sd_run 11 ?_
 refine sd_loop 47 (cl (cl (cr (cr f27b)))) [.blk 0] kr kr kr (fun m9 s9 => ∃ (k : Nat), m9 = m + 1 - k ∧ (∀ j : Nat, j < k → takenB l rg n (j : Int) m = true) ∧ (k ≤ m) ∧ s9 = ⟨tmL [(0, .pointer (some ⟨0, 0, none⟩)), (1, .slice (some ⟨1, 0, none⟩) m m), (2, .int .i64 (n : Int)), (7, .int .i64 (k : Int))], hq [some ⟨[Value.slice (some ⟨1, 0, none⟩) m m, .slice (some ⟨2, 0, none⟩) m m, .int .i64 slots, .slice (some ⟨3, 0, none⟩) m (unk + 3)], 68, false⟩, (inCo rg false), (inCo sl false), (ivCo l false)]⟩) (m + 1 - 0) _ e4_ hX ⟨0, rfl, (fun j hj => absurd hj (Nat.not_lt_zero _)), (Nat.zero_le _), rfl⟩ ⟨sub_of kr kr ⟨brn, inC_b, inC_b, ivC_b, ⟨⟩⟩, te_of kr kr⟩ kr ?_
 rintro m9 s9 ⟨k, rfl, i1_0, i1_1, rfl⟩ R1_ hR1_
 refine sd_run 16 ?_
 refine sd_loop 47 (cl (cl (cr (cl (cr (cl (cl (cl (cl (cr (cr f27b))))))))))) [.blk 2, .next (cr (cr (cl (cl (cl (cl (cr (cr f27b)))))))), .blk 1, .next (cr (cl (cl (cr (cr f27b))))), .inv R1_, .blk 0] kr kr kr (fun m9 s9 => ∃ (j : Nat), m9 = m - j ∧ (j ≤ m) ∧ s9 = ⟨tmL [(0, .pointer (some ⟨0, 0, none⟩)), (1, .slice (some ⟨1, 0, none⟩) m m), (2, .int .i64 (n : Int)), (7, .int .i64 (k : Int)), (8, .bool (takenB l rg n k j)), (13, .slice (some ⟨1, 0, none⟩) m m), (14, .int .i64 (m : Int)), (15, .int .i64 (j : Int))], hq [some ⟨[Value.slice (some ⟨1, 0, none⟩) m m, .slice (some ⟨2, 0, none⟩) m m, .int .i64 slots, .slice (some ⟨3, 0, none⟩) m (unk + 3)], 68, false⟩, (inCo rg false), (inCo sl false), (ivCo l false)]⟩) (m - 0) _ e4_ hX ⟨0, rfl, (by omega), rfl⟩ ⟨sub_of kr kr ⟨brn, inC_b, inC_b, ivC_b, ⟨⟩⟩, te_of kr kr⟩ kr ?_
 rintro m9 s9 ⟨j, rfl, i2_0, rfl⟩ R2_ hR2_
 by_cases hlt : j < m
 ·skip
  obtain ⟨a1, ha1⟩ : ∃ x_, (rg)[j]? = some x_ := ⟨_, List.getElem?_eq_getElem (by omega)⟩
  obtain ⟨a2, ha2⟩ : ∃ x_, (l)[j]? = some x_ := ⟨_, List.getElem?_eq_getElem (by omega)⟩
  obtain ⟨a3, ha3⟩ : ∃ x_, (l)[n]? = some x_ := ⟨_, List.getElem?_eq_getElem (by omega)⟩
  rcases Bool.eq_false_or_eq_true (takenB l rg n k j) with h0k | h0k
  ·skip
   have ht := takenB_yes h0k
   refine sd_see 8 (.bool true) (see_bool kr h0k) (sd_run 3 (sdT 16 ((j : Int) < (m : Int)) (by omega) kr (sd_run 11 (sd_ix 18 (.pointer (some ⟨1, 0 + j * 1, none⟩)) j m kr kr kr (by omega) (sd_ld 19 (.int .i64 a1) 3 (.pointer (some ⟨1, 0 + j * 1, none⟩)) kr kr kr (ld_cell (l := rg) (e := 3) (ro := false) (k := j) (j := 0) inC_len kr kr kr ha1 rfl) (sd_run 34 (sd_see 43 (.int .i64 ((j + 1 : Nat) : Int)) (see_int (x := (IntKind.i64.wrap ((j : Int) + 1))) kr (w64 (by omega) (by omega) (by omega))) ?_)))))))
   refine sd_run 2 (sd_see 8 (.bool (takenB l rg n k (j + 1))) (see_bool kr ht.symm) ?_)
   refine sd_inv R2_ kr (hR2_ _ (m - (j + 1)) _ e4_ (by omega) ⟨j + 1, rfl, (by omega), rfl⟩ ⟨sub_of kr kr ⟨brn, inC_b, inC_b, ivC_b, ⟨⟩⟩, te_of kr kr⟩ kr)
  ·skip
   refine sd_see 8 (.bool false) (see_bool kr h0k) ?_
   by_cases he : a1 = (k : Int)
   ·skip
    have hx9 := he ▸ ha1
    refine sd_run 3 (sdT 16 ((j : Int) < (m : Int)) (by omega) kr (sd_run 11 (sd_ix 18 (.pointer (some ⟨1, 0 + j * 1, none⟩)) j m kr kr kr (by omega) (sd_ld 19 (.int .i64 a1) 3 (.pointer (some ⟨1, 0 + j * 1, none⟩)) kr kr kr (ld_cell (l := rg) (e := 3) (ro := false) (k := j) (j := 0) inC_len kr kr kr ha1 rfl) (sd_run 10 (sd_see 24 (.bool true) (see_bool kr ((beq_iff_eq.2 he) : ((a1 : Int) == (k : Int)) = true)) (sd_run 6 ?_)))))))
    refine sd_ix 31 (.pointer (some ⟨3, 0 + j * 3, none⟩)) j m kr kr kr (by omega) (sd_ld 32 (.agg #[.int .i64 a2.1, .int .i64 a2.2.1, .int .i64 a2.2.2]) 69 (.pointer (some ⟨3, 0 + j * 3, none⟩)) kr kr kr (ld_row (l := l) (e := 69) (ro := false) (k := j) ivC_len kr kr kr ha2) (sd_run 5 (sd_ix 38 (.pointer (some ⟨3, 0 + n * 3, none⟩)) n m kr kr kr (by omega) (sd_ld 39 (.agg #[.int .i64 a3.1, .int .i64 a3.2.1, .int .i64 a3.2.2]) 69 (.pointer (some ⟨3, 0 + n * 3, none⟩)) kr kr kr (ld_row (l := l) (e := 69) (ro := false) (k := n) ivC_len kr kr kr ha3) (sdCp 40 28 #[.agg #[.int .i64 a2.1, .int .i64 a2.2.1, .int .i64 a2.2.2], .agg #[.int .i64 a3.1, .int .i64 a3.2.1, .int .i64 a3.2.2]] (@meetL_s a2.1 a2.2.1 a2.2.2 a3.1 a3.2.1 a3.2.2 ) [] True.intro ?_)))))
    rintro v9 k9 ⟨rfl, rfl⟩
    refine ⟨rfl, .bool (meetB (a2.1, a2.2.1, a2.2.2) (a3.1, a3.2.1, a3.2.2)), kr, ?_⟩
    refine sd_see 40 (.bool (takenB l rg n k (j + 1))) (see_bool kr (takenB_at hx9 h0k ha2 ha3).symm) (sd_run 8 (sd_see 43 (.int .i64 ((j + 1 : Nat) : Int)) (see_int (x := (IntKind.i64.wrap ((j : Int) + 1))) kr (w64 (by omega) (by omega) (by omega))) (sd_run 2 ?_)))
    refine sd_inv R2_ kr (hR2_ _ (m - (j + 1)) _ e4_ (by omega) ⟨j + 1, rfl, (by omega), rfl⟩ ⟨sub_of kr kr ⟨brn, inC_b, inC_b, ivC_b, ⟨⟩⟩, te_of kr kr⟩ kr)
   ·skip
    have ht := takenB_no ha1 h0k he
    refine sd_run 3 (sdT 16 ((j : Int) < (m : Int)) (by omega) kr (sd_run 11 (sd_ix 18 (.pointer (some ⟨1, 0 + j * 1, none⟩)) j m kr kr kr (by omega) (sd_ld 19 (.int .i64 a1) 3 (.pointer (some ⟨1, 0 + j * 1, none⟩)) kr kr kr (ld_cell (l := rg) (e := 3) (ro := false) (k := j) (j := 0) inC_len kr kr kr ha1 rfl) (sd_run 10 (sd_see 24 (.bool false) (see_bool kr ((beq_eq_false_iff_ne.2 he) : ((a1 : Int) == (k : Int)) = false)) (sd_run 24 ?_)))))))
    refine sd_see 43 (.int .i64 ((j + 1 : Nat) : Int)) (see_int (x := (IntKind.i64.wrap ((j : Int) + 1))) kr (w64 (by omega) (by omega) (by omega))) (sd_run 2 (sd_see 8 (.bool (takenB l rg n k (j + 1))) (see_bool kr ht.symm) ?_))
    refine sd_inv R2_ kr (hR2_ _ (m - (j + 1)) _ e4_ (by omega) ⟨j + 1, rfl, (by omega), rfl⟩ ⟨sub_of kr kr ⟨brn, inC_b, inC_b, ivC_b, ⟨⟩⟩, te_of kr kr⟩ kr)
 ·skip
  obtain rfl : m = j := by omega
  refine sd_run 3 (sdF 16 ((m : Int) < (m : Int)) (by omega) kr (sd_run 15 ?_))
  rcases Bool.eq_false_or_eq_true (!(takenB l rg n k m)) with hc4 | hc4
  ·skip
   refine sd_see 45 (.bool true) (see_bool kr hc4) (sd_run 12 ?_)
   have hfr : k = freeK l rg n := FreeP.eq ⟨by rw [← hr]; simpa using hc4, by rw [← hr]; exact i1_0⟩
   refine sdY (.int .i64 (k : Int)) hX [some ⟨[Value.slice (some ⟨1, 0, none⟩) m m, .slice (some ⟨2, 0, none⟩) m m, .int .i64 slots, .slice (some ⟨3, 0, none⟩) m (unk + 3)], 68, false⟩, (inCo rg false), (inCo sl false), (ivCo l false)] i4_ ⟨brn, inC_b, inC_b, ivC_b, ⟨⟩⟩ ⟨(by rw [hfr]), rfl⟩
  ·skip
   refine sd_see 45 (.bool false) (see_bool kr hc4) (sd_run 7 (sd_see 12 (.int .i64 ((k + 1 : Nat) : Int)) (see_int (x := (IntKind.i64.wrap ((k : Int) + 1))) kr (w64 (by omega) (by omega) (by omega))) (sd_run 2 ?_)))
   have ht := all_succ i1_0 (by simpa using hc4)
   have hkm : k + 1 ≤ m := by rw [hr] at ht ⊢; exact taken_le ht
   refine sd_inv R1_ kr (hR1_ _ (m + 1 - (k + 1)) _ e4_ (by omega) ⟨k + 1, rfl, ht, hkm, rfl⟩ ⟨sub_of kr kr ⟨brn, inC_b, inC_b, ivC_b, ⟨⟩⟩, te_of kr kr⟩ kr)
theorem free2_s {rg sl : List Int} {l : List IV} {n m : Nat} {slots : Int} (hr : m = rg.length) (hs : m = sl.length) (hl : m = l.length) (hn : n < m) (hml : m < 1099511627776) : SCall Try.prog T16 27 #[.pointer (some ⟨0, 0, none⟩), .slice (some ⟨2, 0, none⟩) m m, .int .i64 (n : Int)] (hq [some ⟨[Value.slice (some ⟨1, 0, none⟩) m m, .slice (some ⟨2, 0, none⟩) m m, .int .i64 slots, .slice (some ⟨3, 0, none⟩) m (unk + 3)], 68, false⟩, (inCo rg false), (inCo sl false), (ivCo l false)]) fun v h => v = .int .i64 (((freeK l sl n) : Nat) : Int) ∧ h = hq [some ⟨[Value.slice (some ⟨1, 0, none⟩) m m, .slice (some ⟨2, 0, none⟩) m m, .int .i64 slots, .slice (some ⟨3, 0, none⟩) m (unk + 3)], 68, false⟩, (inCo rg false), (inCo sl false), (ivCo l false)] := by
 refine scall_sd 47 _ 4 kr f27_fn f27_body rfl rfl rfl fun X hX => ?_
 refine sd_run 11 ?_
 refine sd_loop 47 (cl (cl (cr (cr f27b)))) [.blk 0] kr kr kr (fun m9 s9 => ∃ (k : Nat), m9 = m + 1 - k ∧ (∀ j : Nat, j < k → takenB l sl n (j : Int) m = true) ∧ (k ≤ m) ∧ s9 = ⟨tmL [(0, .pointer (some ⟨0, 0, none⟩)), (1, .slice (some ⟨2, 0, none⟩) m m), (2, .int .i64 (n : Int)), (7, .int .i64 (k : Int))], hq [some ⟨[Value.slice (some ⟨1, 0, none⟩) m m, .slice (some ⟨2, 0, none⟩) m m, .int .i64 slots, .slice (some ⟨3, 0, none⟩) m (unk + 3)], 68, false⟩, (inCo rg false), (inCo sl false), (ivCo l false)]⟩) (m + 1 - 0) _ e4_ hX ⟨0, rfl, (fun j hj => absurd hj (Nat.not_lt_zero _)), (Nat.zero_le _), rfl⟩ ⟨sub_of kr kr ⟨brn, inC_b, inC_b, ivC_b, ⟨⟩⟩, te_of kr kr⟩ kr ?_
 rintro m9 s9 ⟨k, rfl, i1_0, i1_1, rfl⟩ R1_ hR1_
 refine sd_run 16 ?_
 refine sd_loop 47 (cl (cl (cr (cl (cr (cl (cl (cl (cl (cr (cr f27b))))))))))) [.blk 2, .next (cr (cr (cl (cl (cl (cl (cr (cr f27b)))))))), .blk 1, .next (cr (cl (cl (cr (cr f27b))))), .inv R1_, .blk 0] kr kr kr (fun m9 s9 => ∃ (j : Nat), m9 = m - j ∧ (j ≤ m) ∧ s9 = ⟨tmL [(0, .pointer (some ⟨0, 0, none⟩)), (1, .slice (some ⟨2, 0, none⟩) m m), (2, .int .i64 (n : Int)), (7, .int .i64 (k : Int)), (8, .bool (takenB l sl n k j)), (13, .slice (some ⟨2, 0, none⟩) m m), (14, .int .i64 (m : Int)), (15, .int .i64 (j : Int))], hq [some ⟨[Value.slice (some ⟨1, 0, none⟩) m m, .slice (some ⟨2, 0, none⟩) m m, .int .i64 slots, .slice (some ⟨3, 0, none⟩) m (unk + 3)], 68, false⟩, (inCo rg false), (inCo sl false), (ivCo l false)]⟩) (m - 0) _ e4_ hX ⟨0, rfl, (by omega), rfl⟩ ⟨sub_of kr kr ⟨brn, inC_b, inC_b, ivC_b, ⟨⟩⟩, te_of kr kr⟩ kr ?_
 rintro m9 s9 ⟨j, rfl, i2_0, rfl⟩ R2_ hR2_
 by_cases hlt : j < m
 ·skip
  obtain ⟨a1, ha1⟩ : ∃ x_, (sl)[j]? = some x_ := ⟨_, List.getElem?_eq_getElem (by omega)⟩
  obtain ⟨a2, ha2⟩ : ∃ x_, (l)[j]? = some x_ := ⟨_, List.getElem?_eq_getElem (by omega)⟩
  obtain ⟨a3, ha3⟩ : ∃ x_, (l)[n]? = some x_ := ⟨_, List.getElem?_eq_getElem (by omega)⟩
  rcases Bool.eq_false_or_eq_true (takenB l sl n k j) with h0k | h0k
  ·skip
   have ht := takenB_yes h0k
   refine sd_see 8 (.bool true) (see_bool kr h0k) (sd_run 3 (sdT 16 ((j : Int) < (m : Int)) (by omega) kr (sd_run 11 (sd_ix 18 (.pointer (some ⟨2, 0 + j * 1, none⟩)) j m kr kr kr (by omega) (sd_ld 19 (.int .i64 a1) 3 (.pointer (some ⟨2, 0 + j * 1, none⟩)) kr kr kr (ld_cell (l := sl) (e := 3) (ro := false) (k := j) (j := 0) inC_len kr kr kr ha1 rfl) (sd_run 34 (sd_see 43 (.int .i64 ((j + 1 : Nat) : Int)) (see_int (x := (IntKind.i64.wrap ((j : Int) + 1))) kr (w64 (by omega) (by omega) (by omega))) ?_)))))))
   refine sd_run 2 (sd_see 8 (.bool (takenB l sl n k (j + 1))) (see_bool kr ht.symm) ?_)
   refine sd_inv R2_ kr (hR2_ _ (m - (j + 1)) _ e4_ (by omega) ⟨j + 1, rfl, (by omega), rfl⟩ ⟨sub_of kr kr ⟨brn, inC_b, inC_b, ivC_b, ⟨⟩⟩, te_of kr kr⟩ kr)
  ·skip
   refine sd_see 8 (.bool false) (see_bool kr h0k) ?_
   by_cases he : a1 = (k : Int)
   ·skip
    have hx9 := he ▸ ha1
    refine sd_run 3 (sdT 16 ((j : Int) < (m : Int)) (by omega) kr (sd_run 11 (sd_ix 18 (.pointer (some ⟨2, 0 + j * 1, none⟩)) j m kr kr kr (by omega) (sd_ld 19 (.int .i64 a1) 3 (.pointer (some ⟨2, 0 + j * 1, none⟩)) kr kr kr (ld_cell (l := sl) (e := 3) (ro := false) (k := j) (j := 0) inC_len kr kr kr ha1 rfl) (sd_run 10 (sd_see 24 (.bool true) (see_bool kr ((beq_iff_eq.2 he) : ((a1 : Int) == (k : Int)) = true)) (sd_run 6 ?_)))))))
    refine sd_ix 31 (.pointer (some ⟨3, 0 + j * 3, none⟩)) j m kr kr kr (by omega) (sd_ld 32 (.agg #[.int .i64 a2.1, .int .i64 a2.2.1, .int .i64 a2.2.2]) 69 (.pointer (some ⟨3, 0 + j * 3, none⟩)) kr kr kr (ld_row (l := l) (e := 69) (ro := false) (k := j) ivC_len kr kr kr ha2) (sd_run 5 (sd_ix 38 (.pointer (some ⟨3, 0 + n * 3, none⟩)) n m kr kr kr (by omega) (sd_ld 39 (.agg #[.int .i64 a3.1, .int .i64 a3.2.1, .int .i64 a3.2.2]) 69 (.pointer (some ⟨3, 0 + n * 3, none⟩)) kr kr kr (ld_row (l := l) (e := 69) (ro := false) (k := n) ivC_len kr kr kr ha3) (sdCp 40 28 #[.agg #[.int .i64 a2.1, .int .i64 a2.2.1, .int .i64 a2.2.2], .agg #[.int .i64 a3.1, .int .i64 a3.2.1, .int .i64 a3.2.2]] (@meetL_s a2.1 a2.2.1 a2.2.2 a3.1 a3.2.1 a3.2.2 ) [] True.intro ?_)))))
    rintro v9 k9 ⟨rfl, rfl⟩
    refine ⟨rfl, .bool (meetB (a2.1, a2.2.1, a2.2.2) (a3.1, a3.2.1, a3.2.2)), kr, ?_⟩
    refine sd_see 40 (.bool (takenB l sl n k (j + 1))) (see_bool kr (takenB_at hx9 h0k ha2 ha3).symm) (sd_run 8 (sd_see 43 (.int .i64 ((j + 1 : Nat) : Int)) (see_int (x := (IntKind.i64.wrap ((j : Int) + 1))) kr (w64 (by omega) (by omega) (by omega))) (sd_run 2 ?_)))
    refine sd_inv R2_ kr (hR2_ _ (m - (j + 1)) _ e4_ (by omega) ⟨j + 1, rfl, (by omega), rfl⟩ ⟨sub_of kr kr ⟨brn, inC_b, inC_b, ivC_b, ⟨⟩⟩, te_of kr kr⟩ kr)
   ·skip
    have ht := takenB_no ha1 h0k he
    refine sd_run 3 (sdT 16 ((j : Int) < (m : Int)) (by omega) kr (sd_run 11 (sd_ix 18 (.pointer (some ⟨2, 0 + j * 1, none⟩)) j m kr kr kr (by omega) (sd_ld 19 (.int .i64 a1) 3 (.pointer (some ⟨2, 0 + j * 1, none⟩)) kr kr kr (ld_cell (l := sl) (e := 3) (ro := false) (k := j) (j := 0) inC_len kr kr kr ha1 rfl) (sd_run 10 (sd_see 24 (.bool false) (see_bool kr ((beq_eq_false_iff_ne.2 he) : ((a1 : Int) == (k : Int)) = false)) (sd_run 24 ?_)))))))
    refine sd_see 43 (.int .i64 ((j + 1 : Nat) : Int)) (see_int (x := (IntKind.i64.wrap ((j : Int) + 1))) kr (w64 (by omega) (by omega) (by omega))) (sd_run 2 (sd_see 8 (.bool (takenB l sl n k (j + 1))) (see_bool kr ht.symm) ?_))
    refine sd_inv R2_ kr (hR2_ _ (m - (j + 1)) _ e4_ (by omega) ⟨j + 1, rfl, (by omega), rfl⟩ ⟨sub_of kr kr ⟨brn, inC_b, inC_b, ivC_b, ⟨⟩⟩, te_of kr kr⟩ kr)
 ·skip
  obtain rfl : m = j := by omega
  refine sd_run 3 (sdF 16 ((m : Int) < (m : Int)) (by omega) kr (sd_run 15 ?_))
  rcases Bool.eq_false_or_eq_true (!(takenB l sl n k m)) with hc4 | hc4
  ·skip
   refine sd_see 45 (.bool true) (see_bool kr hc4) (sd_run 12 ?_)
   have hfr : k = freeK l sl n := FreeP.eq ⟨by rw [← hs]; simpa using hc4, by rw [← hs]; exact i1_0⟩
   refine sdY (.int .i64 (k : Int)) hX [some ⟨[Value.slice (some ⟨1, 0, none⟩) m m, .slice (some ⟨2, 0, none⟩) m m, .int .i64 slots, .slice (some ⟨3, 0, none⟩) m (unk + 3)], 68, false⟩, (inCo rg false), (inCo sl false), (ivCo l false)] i4_ ⟨brn, inC_b, inC_b, ivC_b, ⟨⟩⟩ ⟨(by rw [hfr]), rfl⟩
  ·skip
   refine sd_see 45 (.bool false) (see_bool kr hc4) (sd_run 7 (sd_see 12 (.int .i64 ((k + 1 : Nat) : Int)) (see_int (x := (IntKind.i64.wrap ((k : Int) + 1))) kr (w64 (by omega) (by omega) (by omega))) (sd_run 2 ?_)))
   have ht := all_succ i1_0 (by simpa using hc4)
   have hkm : k + 1 ≤ m := by rw [hs] at ht ⊢; exact taken_le ht
   refine sd_inv R1_ kr (hR1_ _ (m + 1 - (k + 1)) _ e4_ (by omega) ⟨k + 1, rfl, ht, hkm, rfl⟩ ⟨sub_of kr kr ⟨brn, inC_b, inC_b, ivC_b, ⟨⟩⟩, te_of kr kr⟩ kr)
end Ls
end Go.Proofs.Ytegjicaoemhhlaa
