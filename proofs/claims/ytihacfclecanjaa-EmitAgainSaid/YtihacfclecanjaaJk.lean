/- Chapter 22: intervals that meet; the lowest place that is free. -/
import Derived.Test.YtihacfclecanjaaJl
set_option linter.unusedVariables false
set_option linter.unusedSimpArgs false
namespace Go.Proofs.Ytihacfclecanjaa
open Go Go.Ev Go.RowKit
set_option maxRecDepth 100000
namespace Ls
theorem foundB {n : Nat} {f : Nat → Bool} {k : Nat} (hk : k < n) (hf : f k = true) (ha : ∀ j, j < k → f j = false) : (List.range n).find? f = some k := by
 refine List.find?_eq_some_iff_getElem.2 ⟨hf, k, by simpa using hk, by simp, fun j hj => ?_⟩;simp [ha j hj]
def freeK (l : List IV) (pl : List Int) (n : Nat) : Nat := ((List.range (pl.length + 1)).find? fun (k : Nat) => !takenB l pl n (k : Int) pl.length).getD 0
theorem FreeP.eq {l : List IV} {pl : List Int} {n k : Nat} (h : FreeP l pl n k) : k = freeK l pl n := by
 unfold freeK;rw [foundB (k := k) (by have := h.le; omega) (by rw [h.no]; rfl) fun j hj => by rw [h.all j hj]; rfl];rfl
theorem freeK_ok (l : List IV) (pl : List Int) (n : Nat) : FreeP l pl n (freeK l pl n) := by
 have hx : ∃ k : Nat, k ≤ pl.length ∧ takenB l pl n (k : Int) pl.length = false := by
  refine Classical.byContradiction fun hc => ?_
  have : pl.length + 1 ≤ pl.length := taken_le (l := l) (n := n) fun k hk => by
   cases h : takenB l pl n (k : Int) pl.length with
   | true => rfl
   | false => exact absurd ⟨k, by omega, h⟩ hc
  omega
 have : ∀ (m k : Nat), k ≤ m → takenB l pl n (k : Int) pl.length = false → ∃ k, FreeP l pl n k := by
  intro m
  induction m with
  | zero => intro k hk h; exact ⟨k, h, fun j hj => by omega⟩
  | succ m ih =>
   intro k hk h
   by_cases q : ∀ j, j < k → takenB l pl n (j : Int) pl.length = true
   ·exact ⟨k, h, q⟩
   ·obtain ⟨j, q⟩ := Classical.not_forall.1 q;obtain ⟨hj, q⟩ := Classical.not_imp.1 q;exact ih j (by omega) (by simpa using q)
 obtain ⟨k, hk, h⟩ := hx;obtain ⟨k', h'⟩ := this k k (Nat.le_refl _) h;rw [← h'.eq]; exact h'
theorem freeK_le (l : List IV) (pl : List Int) (n : Nat) : freeK l pl n ≤ pl.length := (freeK_ok l pl n).le
theorem all_succ {l : List IV} {pl : List Int} {n k N : Nat} (h : ∀ j, j < k → takenB l pl n (j : Int) N = true) (hk : takenB l pl n (k : Int) N = true) : ∀ j, j < k + 1 → takenB l pl n (j : Int) N = true := fun j hj => by
 rcases Nat.lt_or_eq_of_le (Nat.le_of_lt_succ hj) with q | rfl
 ·exact h j q
 ·exact hk
theorem takenB_yes {l : List IV} {pl : List Int} {n : Nat} {k : Int} {j : Nat} (h : takenB l pl n k j = true) : takenB l pl n k (j + 1) = true := by rw [takenB_succ, h]; rfl
theorem takenB_no {l : List IV} {pl : List Int} {n : Nat} {k : Int} {j : Nat} {x : Int} (hx : pl[j]? = some x) (h : takenB l pl n k j = false) (hk : x ≠ k) : takenB l pl n k (j + 1) = false := by
 rw [takenB_succ, h, hx]; simp [hk]
theorem takenB_at {l : List IV} {pl : List Int} {n : Nat} {k : Int} {j : Nat} {a b : IV} (hx : pl[j]? = some k) (h : takenB l pl n k j = false) (ha : l[j]? = some a) (hb : l[n]? = some b) : takenB l pl n k (j + 1) = meetB a b := by
 rw [takenB_succ, h, hx]; simp [meetN, ha, hb]
noncomputable def f75b : Code := Try.f75.body.getD .skip
theorem meetL_s {va a b vc c d : Int}  : SCall Try.prog T15 75 #[.agg #[jI va, jI a, jI b], .agg #[jI vc, jI c, jI d]] (hq []) fun v h => v = .bool (meetB (va, a, b) (vc, c, d)) ∧ h = hq [] := by
 refine zS Try.f75 f75b 24 0 fun X hX => ?_
 refine zB 15 10 (decide ((a : Int) < d)) (fun hc1 => ?_) fun hc1 => ?_
 ·refine zB 7 17 (decide ((c : Int) < b)) (fun hc2 => ?_) fun hc2 => ?_
  ·refine sd_run 10 ?_;simp only [bd] at hc1 hc2;refine zY (.bool true) hX [] ⟨(by congr 1; unfold meetB; rw [Bool.eq_iff_iff]; simp; try omega), rfl⟩
  ·refine zB 10 4 ((a : Int) == c) (fun hc3 => ?_) fun hc3 => ?_
   ·simp only [bd] at hc1 hc2 hc3;refine zY (.bool true) hX [] ⟨(by congr 1; unfold meetB; rw [Bool.eq_iff_iff]; simp; try omega), rfl⟩
   ·simp only [bd] at hc1 hc2 hc3;refine zY (.bool false) hX [] ⟨(by congr 1; unfold meetB; rw [Bool.eq_iff_iff]; simp; try omega), rfl⟩
 ·refine zB 17 4 ((a : Int) == c) (fun hc4 => ?_) fun hc4 => ?_
  ·simp only [bd] at hc1 hc4;refine zY (.bool true) hX [] ⟨(by congr 1; unfold meetB; rw [Bool.eq_iff_iff]; simp; try omega), rfl⟩
  ·simp only [bd] at hc1 hc4;refine zY (.bool false) hX [] ⟨(by congr 1; unfold meetB; rw [Bool.eq_iff_iff]; simp; try omega), rfl⟩
noncomputable def f71b : Code := Try.f71.body.getD .skip
theorem reg_s {n : Int}  : SCall Try.prog T15 71 #[jI n] (hq []) fun v h => v = .bool (decide (1 ≤ n) && decide (n ≤ 16)) ∧ h = hq [] := by
 refine zS Try.f71 f71b 9 0 fun X hX => ?_
 refine zB 10 5 (decide ((n : Int) ≥ 1)) (fun hc1 => ?_) fun hc1 => ?_
 ·refine zB 7 2 (decide ((n : Int) ≤ 16)) (fun hc2 => ?_) fun hc2 => ?_
  ·simp only [bd] at hc1 hc2;refine zY (.bool true) hX [] ⟨(by congr 1; rw [Bool.eq_iff_iff]; simp; try omega), rfl⟩
  ·simp only [bd] at hc1 hc2;refine zY (.bool false) hX [] ⟨(by congr 1; rw [Bool.eq_iff_iff]; simp; try omega), rfl⟩
 ·refine sd_run 7 ?_;simp only [bd] at hc1;refine zY (.bool false) hX [] ⟨(by congr 1; rw [Bool.eq_iff_iff]; simp; try omega), rfl⟩
noncomputable def f74b : Code := Try.f74.body.getD .skip
theorem free1_s {rg sl : List Int} {l : List IV} {n m : Nat} {slots : Int} (hr : m = rg.length) (hs : m = sl.length) (hl : m = l.length) (hn : n < m) (hml : m < 1099511627776) : SCall Try.prog T15 74 #[pT 0 0, sK 1 m m, jI (n : Int)] (hq [oB 134 [sK 1 m m, sK 2 m m, jI slots, sK 3 m (unk + 3)], (inF rg), (inF sl), (ivF l)]) fun v h => v = jI (((freeK l rg n) : Nat) : Int) ∧ h = hq [oB 134 [sK 1 m m, sK 2 m m, jI slots, sK 3 m (unk + 3)], (inF rg), (inF sl), (ivF l)] := by
 refine zS Try.f74 f74b 47 4 fun X hX => ?_
 refine sd_run 11 ?_;refine sd_loop 47 (cl (cl (cr (cr f74b)))) [.blk 0] kr kr kr (fun m9 s9 => ∃ (k : Nat), m9 = m + 1 - k ∧ (∀ j : Nat, j < k → takenB l rg n (j : Int) m = true) ∧ (k ≤ m) ∧ s9 = ⟨tmL [(0, pT 0 0), (1, sK 1 m m), (2, jI (n : Int)), (7, jI (k : Int))], hq [oB 134 [sK 1 m m, sK 2 m m, jI slots, sK 3 m (unk + 3)], (inF rg), (inF sl), (ivF l)]⟩) (m + 1 - 0) _ e4_ hX ⟨0, rfl, (fun j hj => absurd hj (Nat.not_lt_zero _)), (Nat.zero_le _), rfl⟩ ⟨zs, zt⟩ kr ?_;rintro m9 s9 ⟨k, rfl, i1_0, i1_1, rfl⟩ R1_ hR1_;refine sd_run 16 ?_;refine sd_loop 47 (cl (cl (cr (cl (cr (cl (cl (cl (cl (cr (cr f74b))))))))))) [.blk 2, .next (cr (cr (cl (cl (cl (cl (cr (cr f74b)))))))), .blk 1, .next (cr (cl (cl (cr (cr f74b))))), .inv R1_, .blk 0] kr kr kr (fun m9 s9 => ∃ (j : Nat), m9 = m - j ∧ (j ≤ m) ∧ s9 = ⟨tmL [(0, pT 0 0), (1, sK 1 m m), (2, jI (n : Int)), (7, jI (k : Int)), (8, .bool (takenB l rg n k j)), (13, sK 1 m m), (14, jI (m : Int)), (15, jI (j : Int))], hq [oB 134 [sK 1 m m, sK 2 m m, jI slots, sK 3 m (unk + 3)], (inF rg), (inF sl), (ivF l)]⟩) (m - 0) _ e4_ hX ⟨0, rfl, zo, rfl⟩ ⟨zs, zt⟩ kr ?_;rintro m9 s9 ⟨j, rfl, i2_0, rfl⟩ R2_ hR2_
 by_cases hlt : j < m
 ·obtain ⟨a1, ha1⟩ := zR rg j;obtain ⟨a2, ha2⟩ := zR l j;obtain ⟨a3, ha3⟩ := zR l n;rcases Bool.eq_false_or_eq_true (takenB l rg n k j) with h0k | h0k
  ·have ht := takenB_yes h0k;refine sd_see 8 (.bool true) (see_bool kr h0k) (zT 3 16 ((j : Int) < (m : Int)) (zX 11 18 (pT 1 (0 + j * 1)) j m (zL 0 19 (jI a1) 3 1 0 3 false inC_len ha1 (zI 34 43 .i64 ((j + 1 : Nat) : Int) (IntKind.i64.wrap ((j : Int) + 1)) ?_))));refine sd_run 2 (sd_see 8 (.bool (takenB l rg n k (j + 1))) (see_bool kr ht.symm) ?_);refine sd_inv R2_ kr (hR2_ _ (m - (j + 1)) _ e4_ zo ⟨j + 1, rfl, zo, rfl⟩ ⟨zs, zt⟩ kr)
  ·refine sd_see 8 (.bool false) (see_bool kr h0k) ?_
   by_cases he : a1 = (k : Int)
   ·have hx9 := he ▸ ha1;refine zT 3 16 ((j : Int) < (m : Int)) (zX 11 18 (pT 1 (0 + j * 1)) j m (zL 0 19 (jI a1) 3 1 0 3 false inC_len ha1 (sd_run 10 (sd_see 24 (.bool true) (see_bool kr ((beq_iff_eq.2 he) : ((a1 : Int) == (k : Int)) = true)) (sd_run 6 ?_)))));refine zX 0 31 (pT 3 (0 + j * 3)) j m (zM 0 32 136 3 136 false ivC_len ha2 (zX 5 38 (pT 3 (0 + n * 3)) n m (zM 0 39 136 3 136 false ivC_len ha3 (zG 40 75 #[.agg #[jI a2.1, jI a2.2.1, jI a2.2.2], .agg #[jI a3.1, jI a3.2.1, jI a3.2.2]] (@meetL_s a2.1 a2.2.1 a2.2.2 a3.1 a3.2.1 a3.2.2 ) [] ?_))));rintro v9 k9 ⟨rfl, rfl⟩;refine ⟨rfl, .bool (meetB (a2.1, a2.2.1, a2.2.2) (a3.1, a3.2.1, a3.2.2)), kr, ?_⟩;refine sd_see 40 (.bool (takenB l rg n k (j + 1))) (see_bool kr (takenB_at hx9 h0k ha2 ha3).symm) (zI 8 43 .i64 ((j + 1 : Nat) : Int) (IntKind.i64.wrap ((j : Int) + 1)) (sd_run 2 ?_));refine sd_inv R2_ kr (hR2_ _ (m - (j + 1)) _ e4_ zo ⟨j + 1, rfl, zo, rfl⟩ ⟨zs, zt⟩ kr)
   ·have ht := takenB_no ha1 h0k he;refine zT 3 16 ((j : Int) < (m : Int)) (zX 11 18 (pT 1 (0 + j * 1)) j m (zL 0 19 (jI a1) 3 1 0 3 false inC_len ha1 (sd_run 10 (sd_see 24 (.bool false) (see_bool kr ((beq_eq_false_iff_ne.2 he) : ((a1 : Int) == (k : Int)) = false)) (sd_run 24 ?_)))));refine zI 0 43 .i64 ((j + 1 : Nat) : Int) (IntKind.i64.wrap ((j : Int) + 1)) (sd_run 2 (sd_see 8 (.bool (takenB l rg n k (j + 1))) (see_bool kr ht.symm) ?_));refine sd_inv R2_ kr (hR2_ _ (m - (j + 1)) _ e4_ zo ⟨j + 1, rfl, zo, rfl⟩ ⟨zs, zt⟩ kr)
 ·obtain rfl : m = j := by omega
  refine zF 3 16 ((m : Int) < (m : Int)) (sd_run 15 ?_);refine zB 0 45 (!(takenB l rg n k m)) (fun hc4 => ?_) fun hc4 => ?_
  ·refine sd_run 12 ?_;have hfr : k = freeK l rg n := FreeP.eq ⟨by rw [← hr]; simpa using hc4, by rw [← hr]; exact i1_0⟩;refine zY (jI (k : Int)) hX i4_ ⟨(by rw [hfr]), rfl⟩
  ·refine zI 7 12 .i64 ((k + 1 : Nat) : Int) (IntKind.i64.wrap ((k : Int) + 1)) (sd_run 2 ?_);have ht := all_succ i1_0 (by simpa using hc4);have hkm : k + 1 ≤ m := by rw [hr] at ht ⊢; exact taken_le ht
   refine sd_inv R1_ kr (hR1_ _ (m + 1 - (k + 1)) _ e4_ zo ⟨k + 1, rfl, ht, hkm, rfl⟩ ⟨zs, zt⟩ kr)
theorem free2_s {rg sl : List Int} {l : List IV} {n m : Nat} {slots : Int} (hr : m = rg.length) (hs : m = sl.length) (hl : m = l.length) (hn : n < m) (hml : m < 1099511627776) : SCall Try.prog T15 74 #[pT 0 0, sK 2 m m, jI (n : Int)] (hq [oB 134 [sK 1 m m, sK 2 m m, jI slots, sK 3 m (unk + 3)], (inF rg), (inF sl), (ivF l)]) fun v h => v = jI (((freeK l sl n) : Nat) : Int) ∧ h = hq [oB 134 [sK 1 m m, sK 2 m m, jI slots, sK 3 m (unk + 3)], (inF rg), (inF sl), (ivF l)] := by
 refine zS Try.f74 f74b 47 4 fun X hX => ?_
 refine sd_run 11 ?_;refine sd_loop 47 (cl (cl (cr (cr f74b)))) [.blk 0] kr kr kr (fun m9 s9 => ∃ (k : Nat), m9 = m + 1 - k ∧ (∀ j : Nat, j < k → takenB l sl n (j : Int) m = true) ∧ (k ≤ m) ∧ s9 = ⟨tmL [(0, pT 0 0), (1, sK 2 m m), (2, jI (n : Int)), (7, jI (k : Int))], hq [oB 134 [sK 1 m m, sK 2 m m, jI slots, sK 3 m (unk + 3)], (inF rg), (inF sl), (ivF l)]⟩) (m + 1 - 0) _ e4_ hX ⟨0, rfl, (fun j hj => absurd hj (Nat.not_lt_zero _)), (Nat.zero_le _), rfl⟩ ⟨zs, zt⟩ kr ?_;rintro m9 s9 ⟨k, rfl, i1_0, i1_1, rfl⟩ R1_ hR1_;refine sd_run 16 ?_;refine sd_loop 47 (cl (cl (cr (cl (cr (cl (cl (cl (cl (cr (cr f74b))))))))))) [.blk 2, .next (cr (cr (cl (cl (cl (cl (cr (cr f74b)))))))), .blk 1, .next (cr (cl (cl (cr (cr f74b))))), .inv R1_, .blk 0] kr kr kr (fun m9 s9 => ∃ (j : Nat), m9 = m - j ∧ (j ≤ m) ∧ s9 = ⟨tmL [(0, pT 0 0), (1, sK 2 m m), (2, jI (n : Int)), (7, jI (k : Int)), (8, .bool (takenB l sl n k j)), (13, sK 2 m m), (14, jI (m : Int)), (15, jI (j : Int))], hq [oB 134 [sK 1 m m, sK 2 m m, jI slots, sK 3 m (unk + 3)], (inF rg), (inF sl), (ivF l)]⟩) (m - 0) _ e4_ hX ⟨0, rfl, zo, rfl⟩ ⟨zs, zt⟩ kr ?_;rintro m9 s9 ⟨j, rfl, i2_0, rfl⟩ R2_ hR2_
 by_cases hlt : j < m
 ·obtain ⟨a1, ha1⟩ := zR sl j;obtain ⟨a2, ha2⟩ := zR l j;obtain ⟨a3, ha3⟩ := zR l n;rcases Bool.eq_false_or_eq_true (takenB l sl n k j) with h0k | h0k
  ·have ht := takenB_yes h0k;refine sd_see 8 (.bool true) (see_bool kr h0k) (zT 3 16 ((j : Int) < (m : Int)) (zX 11 18 (pT 2 (0 + j * 1)) j m (zL 0 19 (jI a1) 3 2 0 3 false inC_len ha1 (zI 34 43 .i64 ((j + 1 : Nat) : Int) (IntKind.i64.wrap ((j : Int) + 1)) ?_))));refine sd_run 2 (sd_see 8 (.bool (takenB l sl n k (j + 1))) (see_bool kr ht.symm) ?_);refine sd_inv R2_ kr (hR2_ _ (m - (j + 1)) _ e4_ zo ⟨j + 1, rfl, zo, rfl⟩ ⟨zs, zt⟩ kr)
  ·refine sd_see 8 (.bool false) (see_bool kr h0k) ?_
   by_cases he : a1 = (k : Int)
   ·have hx9 := he ▸ ha1;refine zT 3 16 ((j : Int) < (m : Int)) (zX 11 18 (pT 2 (0 + j * 1)) j m (zL 0 19 (jI a1) 3 2 0 3 false inC_len ha1 (sd_run 10 (sd_see 24 (.bool true) (see_bool kr ((beq_iff_eq.2 he) : ((a1 : Int) == (k : Int)) = true)) (sd_run 6 ?_)))));refine zX 0 31 (pT 3 (0 + j * 3)) j m (zM 0 32 136 3 136 false ivC_len ha2 (zX 5 38 (pT 3 (0 + n * 3)) n m (zM 0 39 136 3 136 false ivC_len ha3 (zG 40 75 #[.agg #[jI a2.1, jI a2.2.1, jI a2.2.2], .agg #[jI a3.1, jI a3.2.1, jI a3.2.2]] (@meetL_s a2.1 a2.2.1 a2.2.2 a3.1 a3.2.1 a3.2.2 ) [] ?_))));rintro v9 k9 ⟨rfl, rfl⟩;refine ⟨rfl, .bool (meetB (a2.1, a2.2.1, a2.2.2) (a3.1, a3.2.1, a3.2.2)), kr, ?_⟩;refine sd_see 40 (.bool (takenB l sl n k (j + 1))) (see_bool kr (takenB_at hx9 h0k ha2 ha3).symm) (zI 8 43 .i64 ((j + 1 : Nat) : Int) (IntKind.i64.wrap ((j : Int) + 1)) (sd_run 2 ?_));refine sd_inv R2_ kr (hR2_ _ (m - (j + 1)) _ e4_ zo ⟨j + 1, rfl, zo, rfl⟩ ⟨zs, zt⟩ kr)
   ·have ht := takenB_no ha1 h0k he;refine zT 3 16 ((j : Int) < (m : Int)) (zX 11 18 (pT 2 (0 + j * 1)) j m (zL 0 19 (jI a1) 3 2 0 3 false inC_len ha1 (sd_run 10 (sd_see 24 (.bool false) (see_bool kr ((beq_eq_false_iff_ne.2 he) : ((a1 : Int) == (k : Int)) = false)) (sd_run 24 ?_)))));refine zI 0 43 .i64 ((j + 1 : Nat) : Int) (IntKind.i64.wrap ((j : Int) + 1)) (sd_run 2 (sd_see 8 (.bool (takenB l sl n k (j + 1))) (see_bool kr ht.symm) ?_));refine sd_inv R2_ kr (hR2_ _ (m - (j + 1)) _ e4_ zo ⟨j + 1, rfl, zo, rfl⟩ ⟨zs, zt⟩ kr)
 ·obtain rfl : m = j := by omega
  refine zF 3 16 ((m : Int) < (m : Int)) (sd_run 15 ?_);refine zB 0 45 (!(takenB l sl n k m)) (fun hc4 => ?_) fun hc4 => ?_
  ·refine sd_run 12 ?_;have hfr : k = freeK l sl n := FreeP.eq ⟨by rw [← hs]; simpa using hc4, by rw [← hs]; exact i1_0⟩;refine zY (jI (k : Int)) hX i4_ ⟨(by rw [hfr]), rfl⟩
  ·refine zI 7 12 .i64 ((k + 1 : Nat) : Int) (IntKind.i64.wrap ((k : Int) + 1)) (sd_run 2 ?_);have ht := all_succ i1_0 (by simpa using hc4);have hkm : k + 1 ≤ m := by rw [hs] at ht ⊢; exact taken_le ht
   refine sd_inv R1_ kr (hR1_ _ (m + 1 - (k + 1)) _ e4_ zo ⟨k + 1, rfl, ht, hkm, rfl⟩ ⟨zs, zt⟩ kr)
end Ls
end Go.Proofs.Ytihacfclecanjaa
