/- Chapter 21: which plans are right. -/
import Derived.Test.YtegjicaoemhhlaaJp
set_option linter.unusedVariables false
set_option linter.unusedSimpArgs false
namespace Go.Proofs.Ytegjicaoemhhlaa
open Go Go.Ev Go.RowKit
set_option maxRecDepth 100000
namespace Ls
def clashB (l : List IV) (pl : List Int) (i j : Nat) : Bool := (decide (pl.getD i 0 ≠ -1) && decide (pl.getD i 0 = pl.getD j 0)) && meetN l i j
def apartB (l : List IV) (pl : List Int) : Bool := (List.range l.length).all fun i => (List.range i).all fun j => !clashB l pl i j
theorem apartB_iff {l : List IV} {pl : List Int} : apartB l pl = true ↔ ∀ i j : Nat, i < l.length → j < i → clashB l pl i j = false := by
 unfold apartB;simp only [List.all_eq_true, List.mem_range, Bool.not_eq_eq_eq_not, Bool.not_true];exact ⟨fun h i j h1 h2 => h i h1 j h2, fun h i h1 j h2 => h i j h1 h2⟩
theorem apartB_no {l : List IV} {pl : List Int} {i j : Nat} (hi : i < l.length) (hj : j < i) (h : clashB l pl i j = true) : apartB l pl = false := by
 cases q : apartB l pl with
 | false => rfl
 | true => rw [apartB_iff.1 q i j hi hj] at h; cases h
theorem clash_eq {l : List IV} {pl : List Int} {i j : Nat} {x y : Int} {a b : IV} (hx : pl[i]? = some x) (hy : pl[j]? = some y) (ha : l[i]? = some a) (hb : l[j]? = some b) : clashB l pl i j = ((decide (x ≠ -1) && decide (x = y)) && meetB a b) := by
 unfold clashB; rw [getD_of hx, getD_of hy, meetN_at ha hb]
def placeB (k : Nat) (slots r s : Int) : Bool := (decide (0 ≤ r ∧ r < (k : Int) ∧ s = -1)) || (decide (0 ≤ s ∧ s < slots ∧ r = -1))
def placesB (k : Nat) (slots : Int) (rg sl : List Int) (n : Nat) : Bool := (List.range n).all fun i => placeB k slots (rg.getD i 0) (sl.getD i 0)
theorem placesB_iff {k : Nat} {slots : Int} {rg sl : List Int} {n : Nat} : placesB k slots rg sl n = true ↔ ∀ i : Nat, i < n → placeB k slots (rg.getD i 0) (sl.getD i 0) = true := by
 unfold placesB; simp only [List.all_eq_true, List.mem_range]
theorem placesB_no {k : Nat} {slots : Int} {rg sl : List Int} {n i : Nat} (hi : i < n) (h : placeB k slots (rg.getD i 0) (sl.getD i 0) = false) : placesB k slots rg sl n = false := by
 cases q : placesB k slots rg sl n with
 | false => rfl
 | true => rw [placesB_iff.1 q i hi] at h; cases h
def planB (l : List IV) (k : Nat) (rg sl : List Int) (slots : Int) : Bool := placesB k slots rg sl l.length && (apartB l rg && apartB l sl)
noncomputable def f30b : Code := Try.f30.body.getD .skip
theorem apart_s {l : List IV} {pl : List Int} {m kc : Nat} (hl : m = l.length) (hp : m = pl.length) (hml : m < 1099511627776) : SCall Try.prog T16 30 #[sK 0 m (unk + 3), sK 1 m kc] (hq [(ivF l), (inF pl)]) fun v h => v = .bool (apartB l pl) ∧ h = hq [(ivF l), (inF pl)] := by
 refine zS Try.f30 f30b 45 2 fun X hX => ?_
 refine sd_run 14 ?_;refine sd_loop 45 (cl (cl (cr (cl (cr f30b))))) [.blk 0, .next (cr (cr f30b))] kr kr kr (fun m9 s9 => ∃ (i : Nat), m9 = m - i ∧ (i ≤ m) ∧ (∀ i9 j9 : Nat, i9 < i → j9 < i9 → clashB l pl i9 j9 = false) ∧ s9 = ⟨tmL [(0, sK 0 m (unk + 3)), (1, sK 1 m kc), (8, sK 0 m (unk + 3)), (9, jI (m : Int)), (10, jI (i : Int))], hq [(ivF l), (inF pl)]⟩) (m - 0) _ e2_ hX ⟨0, rfl, (Nat.zero_le _), (fun i9 j9 h => absurd h (Nat.not_lt_zero _)), rfl⟩ ⟨zs, zt⟩ kr ?_;rintro m9 s9 ⟨i, rfl, i1_0, i1_1, rfl⟩ R1_ hR1_
 by_cases hlt : i < m
 ·obtain ⟨a1, ha1⟩ := zR l i;obtain ⟨a2, ha2⟩ := zR pl i;refine zT 3 11 ((i : Int) < (m : Int)) (zX 11 13 (pT 0 (0 + i * 3)) i m (zM 0 14 69 0 69 false ivC_len ha1 (sd_run 12 ?_)));refine sd_loop 45 (cl (cl (cr (cr (cl (cl (cr (cr (cl (cl (cr (cl (cr f30b))))))))))))) [.blk 2, .blk 1, .next (cr (cr (cr (cl (cl (cr (cl (cr f30b)))))))), .inv R1_, .blk 0, .next (cr (cr f30b))] kr kr kr (fun m9 s9 => ∃ (j : Nat), m9 = i - j ∧ (j ≤ i) ∧ (∀ j9 : Nat, j9 < j → clashB l pl i j9 = false) ∧ s9 = ⟨tmL [(0, sK 0 m (unk + 3)), (1, sK 1 m kc), (5, jI (i : Int)), (6, pT 2 0), (8, sK 0 m (unk + 3)), (9, jI (m : Int)), (10, jI (i : Int)), (15, jI (i : Int)), (16, jI (j : Int))], hq [(ivF l), (inF pl), oB 69 [jI a1.1, jI a1.2.1, jI a1.2.2]]⟩) (i - 0) _ e3_ hX ⟨0, rfl, (Nat.zero_le _), (fun j9 h => absurd h (Nat.not_lt_zero _)), rfl⟩ ⟨zs, zt⟩ kr ?_;rintro m9 s9 ⟨j, rfl, i2_0, i2_1, rfl⟩ R2_ hR2_
  by_cases hj : j < i
  ·obtain ⟨a3, ha3⟩ := zR l j;obtain ⟨a4, ha4⟩ := zR pl j;have hce := clash_eq ha2 ha4 ha1 ha3
   by_cases h1 : a2 = -1
   ·refine zT 3 17 ((j : Int) < (i : Int)) (zX 18 21 (pT 1 (0 + i * 1)) i m (zL 0 22 (jI a2) 3 1 0 3 false inC_len ha2 (sd_run 1 (sd_see 23 (.bool false) (see_bool (x := ((a2 : Int) != (-1))) kr (bne_eq_false_iff_eq.2 h1)) (sd_run 27 ?_)))));refine zI 0 43 .i64 ((j + 1 : Nat) : Int) (IntKind.i64.wrap ((j : Int) + 1)) (sd_run 2 ?_);refine sd_inv R2_ kr (hR2_ _ (i - (j + 1)) _ e3_ zo ⟨j + 1, rfl, zo, (fun j9 h => by rcases Nat.lt_or_eq_of_le (Nat.le_of_lt_succ h) with q | rfl; (exact i2_1 j9 q); (rw [hce]; simp [h1])), rfl⟩ ⟨zs, zt⟩ kr)
   ·by_cases h2 : a2 = a4
    ·rcases Bool.eq_false_or_eq_true (meetB (a1.1, a1.2.1, a1.2.2) (a3.1, a3.2.1, a3.2.2)) with hmt | hmt
     ·refine zT 3 17 ((j : Int) < (i : Int)) (zX 18 21 (pT 1 (0 + i * 1)) i m (zL 0 22 (jI a2) 3 1 0 3 false inC_len ha2 (sd_run 1 (sd_see 23 (.bool true) (see_bool (x := ((a2 : Int) != (-1))) kr (bne_iff_ne.2 h1)) (sd_run 3 ?_)))));refine zX 0 27 (pT 1 (0 + i * 1)) i m (zL 0 28 (jI a2) 3 1 0 3 false inC_len ha2 (zX 2 31 (pT 1 (0 + j * 1)) j m (zL 0 32 (jI a4) 3 1 0 3 false inC_len ha4 (sd_run 1 (sd_see 33 (.bool true) (see_bool (x := ((a2 : Int) == a4)) kr (beq_iff_eq.2 h2)) (sd_run 5 ?_))))));refine zX 0 39 (pT 0 (0 + j * 3)) j m (zM 0 40 69 0 69 false ivC_len ha3 (zG 41 28 #[.agg #[jI a1.1, jI a1.2.1, jI a1.2.2], .agg #[jI a3.1, jI a3.2.1, jI a3.2.2]] (@meetL_s a1.1 a1.2.1 a1.2.2 a3.1 a3.2.1 a3.2.2 ) [] ?_));rintro v9 k9 ⟨rfl, rfl⟩;refine ⟨rfl, .bool (meetB (a1.1, a1.2.1, a1.2.2) (a3.1, a3.2.1, a3.2.2)), kr, ?_⟩;refine sd_see 41 (.bool true) (see_bool kr hmt) (sd_run 19 ?_);have hap : apartB l pl = false := apartB_no (i := i) (j := j) (by omega) hj (by rw [hce, decide_eq_true h1, decide_eq_true h2]; exact hmt);refine zY (.bool false) hX i2_ ⟨(by rw [hap]), rfl⟩
     ·refine zT 3 17 ((j : Int) < (i : Int)) (zX 18 21 (pT 1 (0 + i * 1)) i m (zL 0 22 (jI a2) 3 1 0 3 false inC_len ha2 (sd_run 1 (sd_see 23 (.bool true) (see_bool (x := ((a2 : Int) != (-1))) kr (bne_iff_ne.2 h1)) (sd_run 3 ?_)))));refine zX 0 27 (pT 1 (0 + i * 1)) i m (zL 0 28 (jI a2) 3 1 0 3 false inC_len ha2 (zX 2 31 (pT 1 (0 + j * 1)) j m (zL 0 32 (jI a4) 3 1 0 3 false inC_len ha4 (sd_run 1 (sd_see 33 (.bool true) (see_bool (x := ((a2 : Int) == a4)) kr (beq_iff_eq.2 h2)) (sd_run 5 ?_))))));refine zX 0 39 (pT 0 (0 + j * 3)) j m (zM 0 40 69 0 69 false ivC_len ha3 (zG 41 28 #[.agg #[jI a1.1, jI a1.2.1, jI a1.2.2], .agg #[jI a3.1, jI a3.2.1, jI a3.2.2]] (@meetL_s a1.1 a1.2.1 a1.2.2 a3.1 a3.2.1 a3.2.2 ) [] ?_));rintro v9 k9 ⟨rfl, rfl⟩;refine ⟨rfl, .bool (meetB (a1.1, a1.2.1, a1.2.2) (a3.1, a3.2.1, a3.2.2)), kr, ?_⟩;refine sd_see 41 (.bool false) (see_bool kr hmt) (zI 9 43 .i64 ((j + 1 : Nat) : Int) (IntKind.i64.wrap ((j : Int) + 1)) (sd_run 2 ?_));refine sd_inv R2_ kr (hR2_ _ (i - (j + 1)) _ e3_ zo ⟨j + 1, rfl, zo, (fun j9 h => by rcases Nat.lt_or_eq_of_le (Nat.le_of_lt_succ h) with q | rfl; (exact i2_1 j9 q); (rw [hce]; have hm8 : meetB a1 a3 = false := hmt; rw [hm8, Bool.and_false])), rfl⟩ ⟨zs, zt⟩ kr)
    ·refine zT 3 17 ((j : Int) < (i : Int)) (zX 18 21 (pT 1 (0 + i * 1)) i m (zL 0 22 (jI a2) 3 1 0 3 false inC_len ha2 (sd_run 1 (sd_see 23 (.bool true) (see_bool (x := ((a2 : Int) != (-1))) kr (bne_iff_ne.2 h1)) (sd_run 3 ?_)))));refine zX 0 27 (pT 1 (0 + i * 1)) i m (zL 0 28 (jI a2) 3 1 0 3 false inC_len ha2 (zX 2 31 (pT 1 (0 + j * 1)) j m (zL 0 32 (jI a4) 3 1 0 3 false inC_len ha4 (sd_run 1 (sd_see 33 (.bool false) (see_bool (x := ((a2 : Int) == a4)) kr (beq_eq_false_iff_ne.2 h2)) (sd_run 17 ?_))))));refine zI 0 43 .i64 ((j + 1 : Nat) : Int) (IntKind.i64.wrap ((j : Int) + 1)) (sd_run 2 ?_);refine sd_inv R2_ kr (hR2_ _ (i - (j + 1)) _ e3_ zo ⟨j + 1, rfl, zo, (fun j9 h => by rcases Nat.lt_or_eq_of_le (Nat.le_of_lt_succ h) with q | rfl; (exact i2_1 j9 q); (rw [hce]; simp [h2])), rfl⟩ ⟨zs, zt⟩ kr)
  ·obtain rfl : i = j := by omega
   refine zF 3 17 ((i : Int) < (i : Int)) (zI 12 44 .i64 ((i + 1 : Nat) : Int) (IntKind.i64.wrap ((i : Int) + 1)) (sd_run 2 ?_));refine sd_inv R1_ kr (hR1_ _ (m - (i + 1)) _ e2_ zo ⟨i + 1, rfl, zo, (fun i9 j9 h1 h2 => by rcases Nat.lt_or_eq_of_le (Nat.le_of_lt_succ h1) with q | rfl; (exact i1_1 i9 j9 q h2); (exact i2_1 j9 h2)), rfl⟩ ⟨zs, zt⟩ kr)
 ·obtain rfl : m = i := by omega
  refine zF 3 11 ((m : Int) < (m : Int)) (sd_run 15 ?_);have hap : apartB l pl = true := apartB_iff.2 fun i9 j9 h1 h2 => i1_1 i9 j9 (by omega) h2
  refine zY (.bool true) hX i2_ ⟨(by rw [hap]), rfl⟩
noncomputable def f12b : Code := Try.f12.body.getD .skip
set_option maxHeartbeats 2000000 in
theorem pright_s {c : List II} {od rd : List Int} {nd nr hd hr fl nx tg br tk ct : Int} {rg sl : List Int} {slots : Int} {k kc kd : Nat} (hR : RightP c od rd nd nr hd hr fl tg br ct (c.length : Int)) (hcl : c.length < 100000) (hol : od.length < 100000) (hrl : rd.length < 100000) (hi : ∀ x ∈ c, 0 ≤ x.2.2.2.2 ∧ x.2.2.2.2 < 4294967296) (hrg : rg.length = c.length) (hsl : sl.length = c.length) (h0 : 0 ≤ slots ∧ slots < 1099511627776) (hk : 1 ≤ k ∧ k ≤ 16) : SCall Try.prog T16 12 #[(pgV (s5 0 c.length) nd nr hd hr (s1 1 od.length) (s1 2 rd.length) fl nx tg br tk ct (c.length : Int)), .agg #[sK 3 c.length kc, sK 4 c.length kd, jI slots], jI (k : Int)] (hq [(iiF c), (inF od), (inF rd), (inF rg), (inF sl)]) fun v h => v = .bool (planB (ofL c od rd fl tg) k rg sl slots) ∧ h = hq [(iiF c), (inF od), (inF rd), (inF rg), (inF sl)] := by
 have hlen := hR.len;refine zS Try.f12 f12b 97 5 fun X hX => ?_
 refine sd_run 11 (zG 14 23 #[(pgV (s5 0 c.length) nd nr hd hr (s1 1 od.length) (s1 2 rd.length) fl nx tg br tk ct (c.length : Int))] (@right_s c od rd nd nr hd hr fl nx tg br tk ct (c.length : Int) zo zo zo hi) i3_ ?_);rintro v9 k9 ⟨rfl, rfl⟩;refine ⟨rfl, .bool (rightB c od rd nd nr hd hr fl tg br ct (c.length : Int)), kr, ?_⟩;refine sd_see 14 (.bool true) (see_bool kr (rightB_yes hR)) (sd_run 3 (zG 18 24 #[jI (k : Int)] (@reg_s (k : Int) ) [] ?_));rintro v9 k9 ⟨rfl, rfl⟩;refine ⟨rfl, .bool (decide (1 ≤ (k : Int)) && decide ((k : Int) ≤ 16)), kr, ?_⟩;refine sd_see 18 (.bool true) (see_bool kr (show (decide ((1 : Int) ≤ (k : Int)) && decide ((k : Int) ≤ 16)) = true by rw [decide_eq_true (show (1 : Int) ≤ (k : Int) by omega), decide_eq_true (show (k : Int) ≤ 16 by omega)]; rfl)) (zQ 9 27 (c.length : Int) (c.length : Int) (zQ 8 35 (c.length : Int) (c.length : Int) (zF 5 40 ((slots : Int) < 0) (sd_run 16 ?_))))
 refine sd_loop 97 (cl (cl (cr (cl (cr (cr f12b)))))) [.blk 0, .next (cr (cr (cr f12b)))] kr kr kr (fun m9 s9 => ∃ (n : Nat), m9 = c.length - n ∧ (n ≤ c.length) ∧ (∀ i9 : Nat, i9 < n → placeB k slots (rg.getD i9 0) (sl.getD i9 0) = true) ∧ s9 = ⟨tmL [(2, jI (k : Int)), (3, pT 5 0), (4, pT 6 0), (43, sK 3 c.length kc), (44, jN c.length), (45, jI (n : Int))], hq [(iiF c), (inF od), (inF rd), (inF rg), (inF sl), oB 29 [(s5 0 c.length), jI nd, jI nr, jI hd, jI hr, (s1 1 od.length), (s1 2 rd.length), jI fl, jU nx, jI tg, jI br, jU tk, jI ct, jN c.length], oB 38 [sK 3 c.length kc, sK 4 c.length kd, jI slots]]⟩) (c.length - 0) _ e7_ hX ⟨0, rfl, (Nat.zero_le _), (fun i9 h => absurd h (Nat.not_lt_zero _)), rfl⟩ ⟨zs, zt⟩ kr ?_;rintro m9 s9 ⟨n, rfl, i1_0, i1_1, rfl⟩ R1_ hR1_
 by_cases hlt : n < c.length
 ·obtain ⟨a1, ha1⟩ := zR rg n;obtain ⟨a2, ha2⟩ := zR sl n;have hpe : placeB k slots (rg.getD n 0) (sl.getD n 0) = placeB k slots a1 a2 := by rw [getD_of ha1, getD_of ha2]
  refine zT 3 46 ((n : Int) < (c.length : Int)) (zX 11 48 (pT 3 (0 + n * 1)) n c.length (zL 0 49 (jI a1) 3 3 0 3 false inC_len ha1 (zX 9 53 (pT 4 (0 + n * 1)) n c.length (zL 0 54 (jI a2) 3 4 0 3 false inC_len ha2 ?_))));refine zB 8 57 (decide ((a1 : Int) ≥ 0)) (fun hc3 => ?_) fun hc3 => ?_
  ·refine zB 5 62 (decide ((a1 : Int) < (k : Int))) (fun hc4 => ?_) fun hc4 => ?_
   ·refine zB 11 68 (decide ((a2 : Int) ≥ 0)) (fun hc5 => ?_) fun hc5 => ?_
    ·refine zB 6 74 (decide ((a2 : Int) < slots)) (fun hc6 => ?_) fun hc6 => ?_
     ·refine zB 11 80 (!((a2 : Int) == (-1))) (fun hc7 => ?_) fun hc7 => ?_
      ·refine zB 5 83 (!((a1 : Int) == (-1))) (fun hc8 => ?_) fun hc8 => ?_
       ·refine sd_run 12 ?_;simp only [bd] at hc3 hc4 hc5 hc6 hc7 hc8;have hpt : placeB k slots a1 a2 = false := by unfold placeB; simp only [Bool.or_eq_false_iff, decide_eq_false_iff_not]; omega
        have hv : planB (ofL c od rd fl tg) k rg sl slots = false := by unfold planB; rw [placesB_no (i := n) (by rw [ofL_len]; exact hlt) (hpe.trans hpt)]; rfl
        refine zY (.bool false) hX i5_ ⟨(by rw [hv]), rfl⟩
       ·refine zI 6 84 .i64 ((n + 1 : Nat) : Int) (IntKind.i64.wrap ((n : Int) + 1)) (sd_run 2 ?_);simp only [bd] at hc3 hc4 hc5 hc6 hc7 hc8;have hpt : placeB k slots a1 a2 = true := by unfold placeB; simp only [Bool.or_eq_true, decide_eq_true_eq]; omega
        refine sd_inv R1_ kr (hR1_ _ (c.length - (n + 1)) _ e7_ zo ⟨n + 1, rfl, zo, (fun i9 h => by rcases Nat.lt_or_eq_of_le (Nat.le_of_lt_succ h) with q | rfl; (exact i1_1 i9 q); (rw [hpe]; exact hpt)), rfl⟩ ⟨zs, zt⟩ kr)
      ·refine zI 11 84 .i64 ((n + 1 : Nat) : Int) (IntKind.i64.wrap ((n : Int) + 1)) (sd_run 2 ?_);simp only [bd] at hc3 hc4 hc5 hc6 hc7;have hpt : placeB k slots a1 a2 = true := by unfold placeB; simp only [Bool.or_eq_true, decide_eq_true_eq]; omega
       refine sd_inv R1_ kr (hR1_ _ (c.length - (n + 1)) _ e7_ zo ⟨n + 1, rfl, zo, (fun i9 h => by rcases Nat.lt_or_eq_of_le (Nat.le_of_lt_succ h) with q | rfl; (exact i1_1 i9 q); (rw [hpe]; exact hpt)), rfl⟩ ⟨zs, zt⟩ kr)
     ·refine zB 11 80 (!((a2 : Int) == (-1))) (fun hc9 => ?_) fun hc9 => ?_
      ·refine sd_run 17 ?_;simp only [bd] at hc3 hc4 hc5 hc6 hc9;have hpt : placeB k slots a1 a2 = false := by unfold placeB; simp only [Bool.or_eq_false_iff, decide_eq_false_iff_not]; omega
       have hv : planB (ofL c od rd fl tg) k rg sl slots = false := by unfold planB; rw [placesB_no (i := n) (by rw [ofL_len]; exact hlt) (hpe.trans hpt)]; rfl
       refine zY (.bool false) hX i5_ ⟨(by rw [hv]), rfl⟩
      ·refine zI 11 84 .i64 ((n + 1 : Nat) : Int) (IntKind.i64.wrap ((n : Int) + 1)) (sd_run 2 ?_);simp only [bd] at hc3 hc4 hc5 hc6 hc9;have hpt : placeB k slots a1 a2 = true := by unfold placeB; simp only [Bool.or_eq_true, decide_eq_true_eq]; omega
       refine sd_inv R1_ kr (hR1_ _ (c.length - (n + 1)) _ e7_ zo ⟨n + 1, rfl, zo, (fun i9 h => by rcases Nat.lt_or_eq_of_le (Nat.le_of_lt_succ h) with q | rfl; (exact i1_1 i9 q); (rw [hpe]; exact hpt)), rfl⟩ ⟨zs, zt⟩ kr)
    ·refine zB 17 80 (!((a2 : Int) == (-1))) (fun hc10 => ?_) fun hc10 => ?_
     ·refine sd_run 17 ?_;simp only [bd] at hc3 hc4 hc5 hc10;have hpt : placeB k slots a1 a2 = false := by unfold placeB; simp only [Bool.or_eq_false_iff, decide_eq_false_iff_not]; omega
      have hv : planB (ofL c od rd fl tg) k rg sl slots = false := by unfold planB; rw [placesB_no (i := n) (by rw [ofL_len]; exact hlt) (hpe.trans hpt)]; rfl
      refine zY (.bool false) hX i5_ ⟨(by rw [hv]), rfl⟩
     ·refine zI 11 84 .i64 ((n + 1 : Nat) : Int) (IntKind.i64.wrap ((n : Int) + 1)) (sd_run 2 ?_);simp only [bd] at hc3 hc4 hc5 hc10;have hpt : placeB k slots a1 a2 = true := by unfold placeB; simp only [Bool.or_eq_true, decide_eq_true_eq]; omega
      refine sd_inv R1_ kr (hR1_ _ (c.length - (n + 1)) _ e7_ zo ⟨n + 1, rfl, zo, (fun i9 h => by rcases Nat.lt_or_eq_of_le (Nat.le_of_lt_succ h) with q | rfl; (exact i1_1 i9 q); (rw [hpe]; exact hpt)), rfl⟩ ⟨zs, zt⟩ kr)
   ·refine zB 11 68 (decide ((a2 : Int) ≥ 0)) (fun hc11 => ?_) fun hc11 => ?_
    ·refine zB 6 74 (decide ((a2 : Int) < slots)) (fun hc12 => ?_) fun hc12 => ?_
     ·refine zB 16 83 (!((a1 : Int) == (-1))) (fun hc13 => ?_) fun hc13 => ?_
      ·refine sd_run 12 ?_;simp only [bd] at hc3 hc4 hc11 hc12 hc13;have hpt : placeB k slots a1 a2 = false := by unfold placeB; simp only [Bool.or_eq_false_iff, decide_eq_false_iff_not]; omega
       have hv : planB (ofL c od rd fl tg) k rg sl slots = false := by unfold planB; rw [placesB_no (i := n) (by rw [ofL_len]; exact hlt) (hpe.trans hpt)]; rfl
       refine zY (.bool false) hX i5_ ⟨(by rw [hv]), rfl⟩
      ·refine zI 6 84 .i64 ((n + 1 : Nat) : Int) (IntKind.i64.wrap ((n : Int) + 1)) (sd_run 2 ?_);simp only [bd] at hc3 hc4 hc11 hc12 hc13;have hpt : placeB k slots a1 a2 = true := by unfold placeB; simp only [Bool.or_eq_true, decide_eq_true_eq]; omega
       refine sd_inv R1_ kr (hR1_ _ (c.length - (n + 1)) _ e7_ zo ⟨n + 1, rfl, zo, (fun i9 h => by rcases Nat.lt_or_eq_of_le (Nat.le_of_lt_succ h) with q | rfl; (exact i1_1 i9 q); (rw [hpe]; exact hpt)), rfl⟩ ⟨zs, zt⟩ kr)
     ·refine sd_run 28 ?_;simp only [bd] at hc3 hc4 hc11 hc12;have hpt : placeB k slots a1 a2 = false := by unfold placeB; simp only [Bool.or_eq_false_iff, decide_eq_false_iff_not]; omega
      have hv : planB (ofL c od rd fl tg) k rg sl slots = false := by unfold planB; rw [placesB_no (i := n) (by rw [ofL_len]; exact hlt) (hpe.trans hpt)]; rfl
      refine zY (.bool false) hX i5_ ⟨(by rw [hv]), rfl⟩
    ·refine sd_run 34 ?_;simp only [bd] at hc3 hc4 hc11;have hpt : placeB k slots a1 a2 = false := by unfold placeB; simp only [Bool.or_eq_false_iff, decide_eq_false_iff_not]; omega
     have hv : planB (ofL c od rd fl tg) k rg sl slots = false := by unfold planB; rw [placesB_no (i := n) (by rw [ofL_len]; exact hlt) (hpe.trans hpt)]; rfl
     refine zY (.bool false) hX i5_ ⟨(by rw [hv]), rfl⟩
  ·refine zB 16 68 (decide ((a2 : Int) ≥ 0)) (fun hc14 => ?_) fun hc14 => ?_
   ·refine zB 6 74 (decide ((a2 : Int) < slots)) (fun hc15 => ?_) fun hc15 => ?_
    ·refine zB 16 83 (!((a1 : Int) == (-1))) (fun hc16 => ?_) fun hc16 => ?_
     ·refine sd_run 12 ?_;simp only [bd] at hc3 hc14 hc15 hc16;have hpt : placeB k slots a1 a2 = false := by unfold placeB; simp only [Bool.or_eq_false_iff, decide_eq_false_iff_not]; omega
      have hv : planB (ofL c od rd fl tg) k rg sl slots = false := by unfold planB; rw [placesB_no (i := n) (by rw [ofL_len]; exact hlt) (hpe.trans hpt)]; rfl
      refine zY (.bool false) hX i5_ ⟨(by rw [hv]), rfl⟩
     ·refine zI 6 84 .i64 ((n + 1 : Nat) : Int) (IntKind.i64.wrap ((n : Int) + 1)) (sd_run 2 ?_);simp only [bd] at hc3 hc14 hc15 hc16;have hpt : placeB k slots a1 a2 = true := by unfold placeB; simp only [Bool.or_eq_true, decide_eq_true_eq]; omega
      refine sd_inv R1_ kr (hR1_ _ (c.length - (n + 1)) _ e7_ zo ⟨n + 1, rfl, zo, (fun i9 h => by rcases Nat.lt_or_eq_of_le (Nat.le_of_lt_succ h) with q | rfl; (exact i1_1 i9 q); (rw [hpe]; exact hpt)), rfl⟩ ⟨zs, zt⟩ kr)
    ·refine sd_run 28 ?_;simp only [bd] at hc3 hc14 hc15;have hpt : placeB k slots a1 a2 = false := by unfold placeB; simp only [Bool.or_eq_false_iff, decide_eq_false_iff_not]; omega
     have hv : planB (ofL c od rd fl tg) k rg sl slots = false := by unfold planB; rw [placesB_no (i := n) (by rw [ofL_len]; exact hlt) (hpe.trans hpt)]; rfl
     refine zY (.bool false) hX i5_ ⟨(by rw [hv]), rfl⟩
   ·refine sd_run 34 ?_;simp only [bd] at hc3 hc14;have hpt : placeB k slots a1 a2 = false := by unfold placeB; simp only [Bool.or_eq_false_iff, decide_eq_false_iff_not]; omega
    have hv : planB (ofL c od rd fl tg) k rg sl slots = false := by unfold planB; rw [placesB_no (i := n) (by rw [ofL_len]; exact hlt) (hpe.trans hpt)]; rfl
    refine zY (.bool false) hX i5_ ⟨(by rw [hv]), rfl⟩
 ·obtain rfl : n = c.length := by omega
  refine zF 3 46 ((c.length : Int) < (c.length : Int)) (sd_run 12 (zC 86 26 #[(pgV (s5 0 c.length) nd nr hd hr (s1 1 od.length) (s1 2 rd.length) fl nx tg br tk ct (c.length : Int))] (@of_s c od rd nd nr hd hr fl nx tg br tk ct hR zo zo hi) i3_ ?_));rintro hn9 v9 k9 ⟨rfl, rfl⟩;refine mkG (sK 7 c.length (unk + 3)) [(iiF c), (inF od), (inF rd), (inF rg), (inF sl), oB 29 [(s5 0 c.length), jI nd, jI nr, jI hd, jI hr, (s1 1 od.length), (s1 2 rd.length), jI fl, jU nx, jI tg, jI br, jU tk, jI ct, jN c.length], oB 38 [sK 3 c.length kc, sK 4 c.length kd, jI slots], (ivF (ofL c od rd fl tg))] ⟨cvs 0 hn9, cvs 1 hn9, cvs 2 hn9, cvo, cvo, cvo, cvo, ivC_c 3, ⟨⟩⟩ ?_;refine sd_run 8 (zG 90 30 #[sK 7 c.length (unk + 3), sK 3 c.length kc] (@apart_s (ofL c od rd fl tg) rg c.length kc (by rw [ofL_len]) zo zo) [some 7, some 3] ?_);rintro v9 k9 ⟨rfl, rfl⟩;refine ⟨rfl, .bool (apartB (ofL c od rd fl tg) rg), kr, ?_⟩;refine zB 1 91 (apartB (ofL c od rd fl tg) rg) (fun hc17 => ?_) fun hc17 => ?_
  ·refine sd_run 3 (zG 95 30 #[sK 7 c.length (unk + 3), sK 4 c.length kd] (@apart_s (ofL c od rd fl tg) sl c.length kd (by rw [ofL_len]) zo zo) [some 7, some 4] ?_);rintro v9 k9 ⟨rfl, rfl⟩;refine ⟨rfl, .bool (apartB (ofL c od rd fl tg) sl), kr, ?_⟩;refine sd_run 5 ?_;have hpl : placesB k slots rg sl (ofL c od rd fl tg).length = true := by rw [ofL_len]; exact placesB_iff.2 i1_1
   have hv : planB (ofL c od rd fl tg) k rg sl slots = (apartB (ofL c od rd fl tg) sl) := by unfold planB; rw [hpl]; simp [hc17]
   refine zY (.bool (apartB (ofL c od rd fl tg) sl)) hX i5_ ⟨(by rw [hv]), rfl⟩
  ·refine sd_run 9 ?_;have hpl : placesB k slots rg sl (ofL c od rd fl tg).length = true := by rw [ofL_len]; exact placesB_iff.2 i1_1
   have hv : planB (ofL c od rd fl tg) k rg sl slots = false := by unfold planB; rw [hpl]; simp [hc17]
   refine zY (.bool false) hX i5_ ⟨(by rw [hv]), rfl⟩
end Ls
end Go.Proofs.Ytegjicaoemhhlaa
