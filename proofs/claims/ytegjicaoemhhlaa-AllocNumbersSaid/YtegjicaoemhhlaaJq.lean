/- Chapter 21: which plans are right. -/
import Derived.Test.YtegjicaoemhhlaaJp
namespace Go.Proofs.Ytegjicaoemhhlaa
open Go Go.Ev Go.RowKit
set_option linter.unusedVariables false
set_option linter.unusedSimpArgs false
set_option maxRecDepth 100000
namespace Ls
def clashB (l : List IV) (pl : List Int) (i j : Nat) : Bool := (decide (pl.getD i 0 ≠ -1) && decide (pl.getD i 0 = pl.getD j 0)) && meetN l i j
def apartB (l : List IV) (pl : List Int) : Bool := (List.range l.length).all fun i => (List.range i).all fun j => !clashB l pl i j
theorem apartB_iff {l : List IV} {pl : List Int} : apartB l pl = true ↔ ∀ i j : Nat, i < l.length → j < i → clashB l pl i j = false := by
 unfold apartB
 simp only [List.all_eq_true, List.mem_range, Bool.not_eq_eq_eq_not, Bool.not_true]
 exact ⟨fun h i j h1 h2 => h i h1 j h2, fun h i h1 j h2 => h i j h1 h2⟩
theorem apartB_no {l : List IV} {pl : List Int} {i j : Nat} (hi : i < l.length) (hj : j < i) (h : clashB l pl i j = true) : apartB l pl = false := by
 cases q : apartB l pl with
 | false => rfl
 | true => rw [apartB_iff.1 q i j hi hj] at h; cases h
theorem clash_eq {l : List IV} {pl : List Int} {i j : Nat} {x y : Int} {a b : IV} (hx : pl[i]? = some x) (hy : pl[j]? = some y) (ha : l[i]? = some a) (hb : l[j]? = some b) : clashB l pl i j = ((decide (x ≠ -1) && decide (x = y)) && meetB a b) := by
 unfold clashB; rw [getD_of hx, getD_of hy, meetN_at ha hb]
def placeB (k : Nat) (slots r s : Int) : Bool := (decide (0 ≤ r ∧ r < (k : Int) ∧ s = -1)) || (decide (0 ≤ s ∧ s < slots ∧ r = -1))
def placesB (k : Nat) (slots : Int) (rg sl : List Int) (n : Nat) : Bool := (List.range n).all fun i => placeB k slots (rg.getD i 0) (sl.getD i 0)
theorem placesB_iff {k : Nat} {slots : Int} {rg sl : List Int} {n : Nat} : placesB k slots rg sl n = true ↔ ∀ i : Nat, i < n → placeB k slots (rg.getD i 0) (sl.getD i 0) = true := by
 unfold placesB; simp only [List.all_eq_true, List.mem_range]
theorem placesB_no {k : Nat} {slots : Int} {rg sl : List Int} {n i : Nat} (hi : i < n) (h : placeB k slots (rg.getD i 0) (sl.getD i 0) = false) : placesB k slots rg sl n = false := by
 cases q : placesB k slots rg sl n with
 | false => rfl
 | true => rw [placesB_iff.1 q i hi] at h; cases h
def planB (l : List IV) (k : Nat) (rg sl : List Int) (slots : Int) : Bool := placesB k slots rg sl l.length && (apartB l rg && apartB l sl)
noncomputable def f30b : Code := Try.f30.body.getD .skip
theorem f30_body : Try.f30.body = some f30b := by kernel_rfl
theorem f30_fn : T16.fn 30 = some Try.f30 := by kernel_rfl
theorem apart_s {l : List IV} {pl : List Int} {m kc : Nat} (hl : m = l.length) (hp : m = pl.length) (hml : m < 1099511627776) : SCall Try.prog T16 30 #[.slice (some ⟨0, 0, none⟩) m (unk + 3), .slice (some ⟨1, 0, none⟩) m kc] (hq [(ivCo l false), (inCo pl false)]) fun v h => v = .bool (apartB l pl) ∧ h = hq [(ivCo l false), (inCo pl false)] := by
 refine scall_sd 45 _ 2 kr f30_fn f30_body rfl rfl rfl fun X hX => ?_
 refine sd_run 14 ?_
 refine sd_loop 45 (cl (cl (cr (cl (cr f30b))))) [.blk 0, .next (cr (cr f30b))] kr kr kr (fun m9 s9 => ∃ (i : Nat), m9 = m - i ∧ (i ≤ m) ∧ (∀ i9 j9 : Nat, i9 < i → j9 < i9 → clashB l pl i9 j9 = false) ∧ s9 = ⟨tmL [(0, .slice (some ⟨0, 0, none⟩) m (unk + 3)), (1, .slice (some ⟨1, 0, none⟩) m kc), (8, .slice (some ⟨0, 0, none⟩) m (unk + 3)), (9, .int .i64 (m : Int)), (10, .int .i64 (i : Int))], hq [(ivCo l false), (inCo pl false)]⟩) (m - 0) _ e2_ hX ⟨0, rfl, (Nat.zero_le _), (fun i9 j9 h => absurd h (Nat.not_lt_zero _)), rfl⟩ ⟨sub_of kr kr ⟨ivC_b, inC_b, ⟨⟩⟩, te_of kr kr⟩ kr ?_
 rintro m9 s9 ⟨i, rfl, i1_0, i1_1, rfl⟩ R1_ hR1_
 by_cases hlt : i < m
 ·skip
  obtain ⟨a1, ha1⟩ : ∃ x_, (l)[i]? = some x_ := ⟨_, List.getElem?_eq_getElem (by omega)⟩
  obtain ⟨a2, ha2⟩ : ∃ x_, (pl)[i]? = some x_ := ⟨_, List.getElem?_eq_getElem (by omega)⟩
  refine sd_run 3 (sdT 11 ((i : Int) < (m : Int)) (by omega) kr (sd_run 11 (sd_ix 13 (.pointer (some ⟨0, 0 + i * 3, none⟩)) i m kr kr kr (by omega) (sd_ld 14 (.agg #[.int .i64 a1.1, .int .i64 a1.2.1, .int .i64 a1.2.2]) 69 (.pointer (some ⟨0, 0 + i * 3, none⟩)) kr kr kr (ld_row (l := l) (e := 69) (ro := false) (k := i) ivC_len kr kr kr ha1) (sd_run 12 ?_)))))
  refine sd_loop 45 (cl (cl (cr (cr (cl (cl (cr (cr (cl (cl (cr (cl (cr f30b))))))))))))) [.blk 2, .blk 1, .next (cr (cr (cr (cl (cl (cr (cl (cr f30b)))))))), .inv R1_, .blk 0, .next (cr (cr f30b))] kr kr kr (fun m9 s9 => ∃ (j : Nat), m9 = i - j ∧ (j ≤ i) ∧ (∀ j9 : Nat, j9 < j → clashB l pl i j9 = false) ∧ s9 = ⟨tmL [(0, .slice (some ⟨0, 0, none⟩) m (unk + 3)), (1, .slice (some ⟨1, 0, none⟩) m kc), (5, .int .i64 (i : Int)), (6, .pointer (some ⟨2, 0, none⟩)), (8, .slice (some ⟨0, 0, none⟩) m (unk + 3)), (9, .int .i64 (m : Int)), (10, .int .i64 (i : Int)), (15, .int .i64 (i : Int)), (16, .int .i64 (j : Int))], hq [(ivCo l false), (inCo pl false), some ⟨[Value.int .i64 a1.1, .int .i64 a1.2.1, .int .i64 a1.2.2], 69, false⟩]⟩) (i - 0) _ e3_ hX ⟨0, rfl, (Nat.zero_le _), (fun j9 h => absurd h (Nat.not_lt_zero _)), rfl⟩ ⟨sub_of kr kr ⟨ivC_b, inC_b, brn, ⟨⟩⟩, te_of kr kr⟩ kr ?_
  rintro m9 s9 ⟨j, rfl, i2_0, i2_1, rfl⟩ R2_ hR2_
  by_cases hj : j < i
  ·skip
   obtain ⟨a3, ha3⟩ : ∃ x_, (l)[j]? = some x_ := ⟨_, List.getElem?_eq_getElem (by omega)⟩
   obtain ⟨a4, ha4⟩ : ∃ x_, (pl)[j]? = some x_ := ⟨_, List.getElem?_eq_getElem (by omega)⟩
   have hce := clash_eq ha2 ha4 ha1 ha3
   by_cases h1 : a2 = -1
   ·skip
    refine sd_run 3 (sdT 17 ((j : Int) < (i : Int)) (by omega) kr (sd_run 18 (sd_ix 21 (.pointer (some ⟨1, 0 + i * 1, none⟩)) i m kr kr kr (by omega) (sd_ld 22 (.int .i64 a2) 3 (.pointer (some ⟨1, 0 + i * 1, none⟩)) kr kr kr (ld_cell (l := pl) (e := 3) (ro := false) (k := i) (j := 0) inC_len kr kr kr ha2 rfl) (sd_run 1 (sd_see 23 (.bool false) (see_bool (x := ((a2 : Int) != (-1))) kr (bne_eq_false_iff_eq.2 h1)) (sd_run 27 ?_)))))))
    refine sd_see 43 (.int .i64 ((j + 1 : Nat) : Int)) (see_int (x := (IntKind.i64.wrap ((j : Int) + 1))) kr (w64 (by omega) (by omega) (by omega))) (sd_run 2 ?_)
    refine sd_inv R2_ kr (hR2_ _ (i - (j + 1)) _ e3_ (by omega) ⟨j + 1, rfl, (by omega), (fun j9 h => by rcases Nat.lt_or_eq_of_le (Nat.le_of_lt_succ h) with q | rfl; (exact i2_1 j9 q); (rw [hce]; simp [h1])), rfl⟩ ⟨sub_of kr kr ⟨ivC_b, inC_b, brn, ⟨⟩⟩, te_of kr kr⟩ kr)
   ·skip
    by_cases h2 : a2 = a4
    ·skip
     rcases Bool.eq_false_or_eq_true (meetB (a1.1, a1.2.1, a1.2.2) (a3.1, a3.2.1, a3.2.2)) with hmt | hmt
     ·skip
      refine sd_run 3 (sdT 17 ((j : Int) < (i : Int)) (by omega) kr (sd_run 18 (sd_ix 21 (.pointer (some ⟨1, 0 + i * 1, none⟩)) i m kr kr kr (by omega) (sd_ld 22 (.int .i64 a2) 3 (.pointer (some ⟨1, 0 + i * 1, none⟩)) kr kr kr (ld_cell (l := pl) (e := 3) (ro := false) (k := i) (j := 0) inC_len kr kr kr ha2 rfl) (sd_run 1 (sd_see 23 (.bool true) (see_bool (x := ((a2 : Int) != (-1))) kr (bne_iff_ne.2 h1)) (sd_run 3 ?_)))))))
      refine sd_ix 27 (.pointer (some ⟨1, 0 + i * 1, none⟩)) i m kr kr kr (by omega) (sd_ld 28 (.int .i64 a2) 3 (.pointer (some ⟨1, 0 + i * 1, none⟩)) kr kr kr (ld_cell (l := pl) (e := 3) (ro := false) (k := i) (j := 0) inC_len kr kr kr ha2 rfl) (sd_run 2 (sd_ix 31 (.pointer (some ⟨1, 0 + j * 1, none⟩)) j m kr kr kr (by omega) (sd_ld 32 (.int .i64 a4) 3 (.pointer (some ⟨1, 0 + j * 1, none⟩)) kr kr kr (ld_cell (l := pl) (e := 3) (ro := false) (k := j) (j := 0) inC_len kr kr kr ha4 rfl) (sd_run 1 (sd_see 33 (.bool true) (see_bool (x := ((a2 : Int) == a4)) kr (beq_iff_eq.2 h2)) (sd_run 5 ?_)))))))
      refine sd_ix 39 (.pointer (some ⟨0, 0 + j * 3, none⟩)) j m kr kr kr (by omega) (sd_ld 40 (.agg #[.int .i64 a3.1, .int .i64 a3.2.1, .int .i64 a3.2.2]) 69 (.pointer (some ⟨0, 0 + j * 3, none⟩)) kr kr kr (ld_row (l := l) (e := 69) (ro := false) (k := j) ivC_len kr kr kr ha3) (sdCp 41 28 #[.agg #[.int .i64 a1.1, .int .i64 a1.2.1, .int .i64 a1.2.2], .agg #[.int .i64 a3.1, .int .i64 a3.2.1, .int .i64 a3.2.2]] (@meetL_s a1.1 a1.2.1 a1.2.2 a3.1 a3.2.1 a3.2.2 ) [] True.intro ?_))
      rintro v9 k9 ⟨rfl, rfl⟩
      refine ⟨rfl, .bool (meetB (a1.1, a1.2.1, a1.2.2) (a3.1, a3.2.1, a3.2.2)), kr, ?_⟩
      refine sd_see 41 (.bool true) (see_bool kr hmt) (sd_run 19 ?_)
      have hap : apartB l pl = false := apartB_no (i := i) (j := j) (by omega) hj (by rw [hce, decide_eq_true h1, decide_eq_true h2]; exact hmt)
      refine sdY (.bool false) hX [(ivCo l false), (inCo pl false)] i2_ ⟨ivC_b, inC_b, ⟨⟩⟩ ⟨(by rw [hap]), rfl⟩
     ·skip
      refine sd_run 3 (sdT 17 ((j : Int) < (i : Int)) (by omega) kr (sd_run 18 (sd_ix 21 (.pointer (some ⟨1, 0 + i * 1, none⟩)) i m kr kr kr (by omega) (sd_ld 22 (.int .i64 a2) 3 (.pointer (some ⟨1, 0 + i * 1, none⟩)) kr kr kr (ld_cell (l := pl) (e := 3) (ro := false) (k := i) (j := 0) inC_len kr kr kr ha2 rfl) (sd_run 1 (sd_see 23 (.bool true) (see_bool (x := ((a2 : Int) != (-1))) kr (bne_iff_ne.2 h1)) (sd_run 3 ?_)))))))
      refine sd_ix 27 (.pointer (some ⟨1, 0 + i * 1, none⟩)) i m kr kr kr (by omega) (sd_ld 28 (.int .i64 a2) 3 (.pointer (some ⟨1, 0 + i * 1, none⟩)) kr kr kr (ld_cell (l := pl) (e := 3) (ro := false) (k := i) (j := 0) inC_len kr kr kr ha2 rfl) (sd_run 2 (sd_ix 31 (.pointer (some ⟨1, 0 + j * 1, none⟩)) j m kr kr kr (by omega) (sd_ld 32 (.int .i64 a4) 3 (.pointer (some ⟨1, 0 + j * 1, none⟩)) kr kr kr (ld_cell (l := pl) (e := 3) (ro := false) (k := j) (j := 0) inC_len kr kr kr ha4 rfl) (sd_run 1 (sd_see 33 (.bool true) (see_bool (x := ((a2 : Int) == a4)) kr (beq_iff_eq.2 h2)) (sd_run 5 ?_)))))))
      refine sd_ix 39 (.pointer (some ⟨0, 0 + j * 3, none⟩)) j m kr kr kr (by omega) (sd_ld 40 (.agg #[.int .i64 a3.1, .int .i64 a3.2.1, .int .i64 a3.2.2]) 69 (.pointer (some ⟨0, 0 + j * 3, none⟩)) kr kr kr (ld_row (l := l) (e := 69) (ro := false) (k := j) ivC_len kr kr kr ha3) (sdCp 41 28 #[.agg #[.int .i64 a1.1, .int .i64 a1.2.1, .int .i64 a1.2.2], .agg #[.int .i64 a3.1, .int .i64 a3.2.1, .int .i64 a3.2.2]] (@meetL_s a1.1 a1.2.1 a1.2.2 a3.1 a3.2.1 a3.2.2 ) [] True.intro ?_))
      rintro v9 k9 ⟨rfl, rfl⟩
      refine ⟨rfl, .bool (meetB (a1.1, a1.2.1, a1.2.2) (a3.1, a3.2.1, a3.2.2)), kr, ?_⟩
      refine sd_see 41 (.bool false) (see_bool kr hmt) (sd_run 9 (sd_see 43 (.int .i64 ((j + 1 : Nat) : Int)) (see_int (x := (IntKind.i64.wrap ((j : Int) + 1))) kr (w64 (by omega) (by omega) (by omega))) (sd_run 2 ?_)))
      refine sd_inv R2_ kr (hR2_ _ (i - (j + 1)) _ e3_ (by omega) ⟨j + 1, rfl, (by omega), (fun j9 h => by rcases Nat.lt_or_eq_of_le (Nat.le_of_lt_succ h) with q | rfl; (exact i2_1 j9 q); (rw [hce]; have hm8 : meetB a1 a3 = false := hmt; rw [hm8, Bool.and_false])), rfl⟩ ⟨sub_of kr kr ⟨ivC_b, inC_b, brn, ⟨⟩⟩, te_of kr kr⟩ kr)
    ·skip
     refine sd_run 3 (sdT 17 ((j : Int) < (i : Int)) (by omega) kr (sd_run 18 (sd_ix 21 (.pointer (some ⟨1, 0 + i * 1, none⟩)) i m kr kr kr (by omega) (sd_ld 22 (.int .i64 a2) 3 (.pointer (some ⟨1, 0 + i * 1, none⟩)) kr kr kr (ld_cell (l := pl) (e := 3) (ro := false) (k := i) (j := 0) inC_len kr kr kr ha2 rfl) (sd_run 1 (sd_see 23 (.bool true) (see_bool (x := ((a2 : Int) != (-1))) kr (bne_iff_ne.2 h1)) (sd_run 3 ?_)))))))
     refine sd_ix 27 (.pointer (some ⟨1, 0 + i * 1, none⟩)) i m kr kr kr (by omega) (sd_ld 28 (.int .i64 a2) 3 (.pointer (some ⟨1, 0 + i * 1, none⟩)) kr kr kr (ld_cell (l := pl) (e := 3) (ro := false) (k := i) (j := 0) inC_len kr kr kr ha2 rfl) (sd_run 2 (sd_ix 31 (.pointer (some ⟨1, 0 + j * 1, none⟩)) j m kr kr kr (by omega) (sd_ld 32 (.int .i64 a4) 3 (.pointer (some ⟨1, 0 + j * 1, none⟩)) kr kr kr (ld_cell (l := pl) (e := 3) (ro := false) (k := j) (j := 0) inC_len kr kr kr ha4 rfl) (sd_run 1 (sd_see 33 (.bool false) (see_bool (x := ((a2 : Int) == a4)) kr (beq_eq_false_iff_ne.2 h2)) (sd_run 17 ?_)))))))
     refine sd_see 43 (.int .i64 ((j + 1 : Nat) : Int)) (see_int (x := (IntKind.i64.wrap ((j : Int) + 1))) kr (w64 (by omega) (by omega) (by omega))) (sd_run 2 ?_)
     refine sd_inv R2_ kr (hR2_ _ (i - (j + 1)) _ e3_ (by omega) ⟨j + 1, rfl, (by omega), (fun j9 h => by rcases Nat.lt_or_eq_of_le (Nat.le_of_lt_succ h) with q | rfl; (exact i2_1 j9 q); (rw [hce]; simp [h2])), rfl⟩ ⟨sub_of kr kr ⟨ivC_b, inC_b, brn, ⟨⟩⟩, te_of kr kr⟩ kr)
  ·skip
   obtain rfl : i = j := by omega
   refine sd_run 3 (sdF 17 ((i : Int) < (i : Int)) (by omega) kr (sd_run 12 (sd_see 44 (.int .i64 ((i + 1 : Nat) : Int)) (see_int (x := (IntKind.i64.wrap ((i : Int) + 1))) kr (w64 (by omega) (by omega) (by omega))) (sd_run 2 ?_))))
   refine sd_inv R1_ kr (hR1_ _ (m - (i + 1)) _ e2_ (by omega) ⟨i + 1, rfl, (by omega), (fun i9 j9 h1 h2 => by rcases Nat.lt_or_eq_of_le (Nat.le_of_lt_succ h1) with q | rfl; (exact i1_1 i9 j9 q h2); (exact i2_1 j9 h2)), rfl⟩ ⟨sub_of kr kr ⟨ivC_b, inC_b, ⟨⟩⟩, te_of kr kr⟩ kr)
 ·skip
  obtain rfl : m = i := by omega
  refine sd_run 3 (sdF 11 ((m : Int) < (m : Int)) (by omega) kr (sd_run 15 ?_))
  have hap : apartB l pl = true := apartB_iff.2 fun i9 j9 h1 h2 => i1_1 i9 j9 (by omega) h2
  refine sdY (.bool true) hX [(ivCo l false), (inCo pl false)] i2_ ⟨ivC_b, inC_b, ⟨⟩⟩ ⟨(by rw [hap]), rfl⟩
noncomputable def f12b : Code := Try.f12.body.getD .skip
theorem f12_body : Try.f12.body = some f12b := by kernel_rfl
theorem f12_fn : T16.fn 12 = some Try.f12 := by kernel_rfl
set_option maxHeartbeats 2000000 in
theorem pright_s {c : List II} {od rd : List Int} {nd nr hd hr fl nx tg br tk ct : Int} {rg sl : List Int} {slots : Int} {k kc kd : Nat} (hR : RightP c od rd nd nr hd hr fl tg br ct (c.length : Int)) (hcl : c.length < 100000) (hol : od.length < 100000) (hrl : rd.length < 100000) (hi : ∀ x ∈ c, 0 ≤ x.2.2.2.2 ∧ x.2.2.2.2 < 4294967296) (hrg : rg.length = c.length) (hsl : sl.length = c.length) (h0 : 0 ≤ slots ∧ slots < 1099511627776) (hk : 1 ≤ k ∧ k ≤ 16) : SCall Try.prog T16 12 #[(pgV (s5 0 c.length) nd nr hd hr (s1 1 od.length) (s1 2 rd.length) fl nx tg br tk ct (c.length : Int)), .agg #[.slice (some ⟨3, 0, none⟩) c.length kc, .slice (some ⟨4, 0, none⟩) c.length kd, .int .i64 slots], .int .i64 (k : Int)] (hq [(iiCo c false), (inCo od false), (inCo rd false), (inCo rg false), (inCo sl false)]) fun v h => v = .bool (planB (ofL c od rd fl tg) k rg sl slots) ∧ h = hq [(iiCo c false), (inCo od false), (inCo rd false), (inCo rg false), (inCo sl false)] := by
 have hlen := hR.len
 refine scall_sd 97 _ 5 kr f12_fn f12_body rfl rfl rfl fun X hX => ?_
 refine sd_run 11 (sdCp 14 23 #[(pgV (s5 0 c.length) nd nr hd hr (s1 1 od.length) (s1 2 rd.length) fl nx tg br tk ct (c.length : Int))] (@right_s c od rd nd nr hd hr fl nx tg br tk ct (c.length : Int) (by omega) (by omega) (by omega) hi) i3_ ⟨iiC_b, inC_b, inC_b, ⟨⟩⟩ ?_)
 rintro v9 k9 ⟨rfl, rfl⟩
 refine ⟨rfl, .bool (rightB c od rd nd nr hd hr fl tg br ct (c.length : Int)), kr, ?_⟩
 refine sd_see 14 (.bool true) (see_bool kr (rightB_yes hR)) (sd_run 3 (sdCp 18 24 #[.int .i64 (k : Int)] (@reg_s (k : Int) ) [] True.intro ?_))
 rintro v9 k9 ⟨rfl, rfl⟩
 refine ⟨rfl, .bool (decide (1 ≤ (k : Int)) && decide ((k : Int) ≤ 16)), kr, ?_⟩
 refine sd_see 18 (.bool true) (see_bool kr (show (decide ((1 : Int) ≤ (k : Int)) && decide ((k : Int) ≤ 16)) = true by rw [decide_eq_true (show (1 : Int) ≤ (k : Int) by omega), decide_eq_true (show (k : Int) ≤ 16 by omega)]; rfl)) (sd_run 9 (sdQ 27 (c.length : Int) (c.length : Int) (by omega) kr (sd_run 8 (sdQ 35 (c.length : Int) (c.length : Int) (by omega) kr (sd_run 5 (sdF 40 ((slots : Int) < 0) (by omega) kr (sd_run 16 ?_)))))))
 refine sd_loop 97 (cl (cl (cr (cl (cr (cr f12b)))))) [.blk 0, .next (cr (cr (cr f12b)))] kr kr kr (fun m9 s9 => ∃ (n : Nat), m9 = c.length - n ∧ (n ≤ c.length) ∧ (∀ i9 : Nat, i9 < n → placeB k slots (rg.getD i9 0) (sl.getD i9 0) = true) ∧ s9 = ⟨tmL [(2, .int .i64 (k : Int)), (3, .pointer (some ⟨5, 0, none⟩)), (4, .pointer (some ⟨6, 0, none⟩)), (43, .slice (some ⟨3, 0, none⟩) c.length kc), (44, .int .i64 (c.length : Int)), (45, .int .i64 (n : Int))], hq [(iiCo c false), (inCo od false), (inCo rd false), (inCo rg false), (inCo sl false), some ⟨[(s5 0 c.length), .int .i64 nd, .int .i64 nr, .int .i64 hd, .int .i64 hr, (s1 1 od.length), (s1 2 rd.length), .int .i64 fl, .int .u32 nx, .int .i64 tg, .int .i64 br, .int .u32 tk, .int .i64 ct, .int .i64 (c.length : Int)], 29, false⟩, some ⟨[Value.slice (some ⟨3, 0, none⟩) c.length kc, .slice (some ⟨4, 0, none⟩) c.length kd, .int .i64 slots], 38, false⟩]⟩) (c.length - 0) _ e7_ hX ⟨0, rfl, (Nat.zero_le _), (fun i9 h => absurd h (Nat.not_lt_zero _)), rfl⟩ ⟨sub_of kr kr ⟨iiC_b, inC_b, inC_b, inC_b, inC_b, brn, brn, ⟨⟩⟩, te_of kr kr⟩ kr ?_
 rintro m9 s9 ⟨n, rfl, i1_0, i1_1, rfl⟩ R1_ hR1_
 by_cases hlt : n < c.length
 ·skip
  obtain ⟨a1, ha1⟩ : ∃ x_, (rg)[n]? = some x_ := ⟨_, List.getElem?_eq_getElem (by omega)⟩
  obtain ⟨a2, ha2⟩ : ∃ x_, (sl)[n]? = some x_ := ⟨_, List.getElem?_eq_getElem (by omega)⟩
  have hpe : placeB k slots (rg.getD n 0) (sl.getD n 0) = placeB k slots a1 a2 := by rw [getD_of ha1, getD_of ha2]
  refine sd_run 3 (sdT 46 ((n : Int) < (c.length : Int)) (by omega) kr (sd_run 11 (sd_ix 48 (.pointer (some ⟨3, 0 + n * 1, none⟩)) n c.length kr kr kr (by omega) (sd_ld 49 (.int .i64 a1) 3 (.pointer (some ⟨3, 0 + n * 1, none⟩)) kr kr kr (ld_cell (l := rg) (e := 3) (ro := false) (k := n) (j := 0) inC_len kr kr kr ha1 rfl) (sd_run 9 (sd_ix 53 (.pointer (some ⟨4, 0 + n * 1, none⟩)) n c.length kr kr kr (by omega) (sd_ld 54 (.int .i64 a2) 3 (.pointer (some ⟨4, 0 + n * 1, none⟩)) kr kr kr (ld_cell (l := sl) (e := 3) (ro := false) (k := n) (j := 0) inC_len kr kr kr ha2 rfl) ?_)))))))
  refine sd_run 8 ?_
  rcases Bool.eq_false_or_eq_true (decide ((a1 : Int) ≥ 0)) with hc3 | hc3
  ·skip
   refine sd_see 57 (.bool true) (see_bool kr hc3) (sd_run 5 ?_)
   rcases Bool.eq_false_or_eq_true (decide ((a1 : Int) < (k : Int))) with hc4 | hc4
   ·skip
    refine sd_see 62 (.bool true) (see_bool kr hc4) (sd_run 11 ?_)
    rcases Bool.eq_false_or_eq_true (decide ((a2 : Int) ≥ 0)) with hc5 | hc5
    ·skip
     refine sd_see 68 (.bool true) (see_bool kr hc5) (sd_run 6 ?_)
     rcases Bool.eq_false_or_eq_true (decide ((a2 : Int) < slots)) with hc6 | hc6
     ·skip
      refine sd_see 74 (.bool true) (see_bool kr hc6) (sd_run 11 ?_)
      rcases Bool.eq_false_or_eq_true (!((a2 : Int) == (-1))) with hc7 | hc7
      ·skip
       refine sd_see 80 (.bool true) (see_bool kr hc7) (sd_run 5 ?_)
       rcases Bool.eq_false_or_eq_true (!((a1 : Int) == (-1))) with hc8 | hc8
       ·skip
        refine sd_see 83 (.bool true) (see_bool kr hc8) (sd_run 12 ?_)
        simp only [bd] at hc3 hc4 hc5 hc6 hc7 hc8
        have hpt : placeB k slots a1 a2 = false := by unfold placeB; simp only [Bool.or_eq_false_iff, decide_eq_false_iff_not]; omega
        have hv : planB (ofL c od rd fl tg) k rg sl slots = false := by unfold planB; rw [placesB_no (i := n) (by rw [ofL_len]; exact hlt) (hpe.trans hpt)]; rfl
        refine sdY (.bool false) hX [(iiCo c false), (inCo od false), (inCo rd false), (inCo rg false), (inCo sl false)] i5_ ⟨iiC_b, inC_b, inC_b, inC_b, inC_b, ⟨⟩⟩ ⟨(by rw [hv]), rfl⟩
       ·skip
        refine sd_see 83 (.bool false) (see_bool kr hc8) (sd_run 6 (sd_see 84 (.int .i64 ((n + 1 : Nat) : Int)) (see_int (x := (IntKind.i64.wrap ((n : Int) + 1))) kr (w64 (by omega) (by omega) (by omega))) (sd_run 2 ?_)))
        simp only [bd] at hc3 hc4 hc5 hc6 hc7 hc8
        have hpt : placeB k slots a1 a2 = true := by unfold placeB; simp only [Bool.or_eq_true, decide_eq_true_eq]; omega
        refine sd_inv R1_ kr (hR1_ _ (c.length - (n + 1)) _ e7_ (by omega) ⟨n + 1, rfl, (by omega), (fun i9 h => by rcases Nat.lt_or_eq_of_le (Nat.le_of_lt_succ h) with q | rfl; (exact i1_1 i9 q); (rw [hpe]; exact hpt)), rfl⟩ ⟨sub_of kr kr ⟨iiC_b, inC_b, inC_b, inC_b, inC_b, brn, brn, ⟨⟩⟩, te_of kr kr⟩ kr)
      ·skip
       refine sd_see 80 (.bool false) (see_bool kr hc7) (sd_run 11 (sd_see 84 (.int .i64 ((n + 1 : Nat) : Int)) (see_int (x := (IntKind.i64.wrap ((n : Int) + 1))) kr (w64 (by omega) (by omega) (by omega))) (sd_run 2 ?_)))
       simp only [bd] at hc3 hc4 hc5 hc6 hc7
       have hpt : placeB k slots a1 a2 = true := by unfold placeB; simp only [Bool.or_eq_true, decide_eq_true_eq]; omega
       refine sd_inv R1_ kr (hR1_ _ (c.length - (n + 1)) _ e7_ (by omega) ⟨n + 1, rfl, (by omega), (fun i9 h => by rcases Nat.lt_or_eq_of_le (Nat.le_of_lt_succ h) with q | rfl; (exact i1_1 i9 q); (rw [hpe]; exact hpt)), rfl⟩ ⟨sub_of kr kr ⟨iiC_b, inC_b, inC_b, inC_b, inC_b, brn, brn, ⟨⟩⟩, te_of kr kr⟩ kr)
     ·skip
      refine sd_see 74 (.bool false) (see_bool kr hc6) (sd_run 11 ?_)
      rcases Bool.eq_false_or_eq_true (!((a2 : Int) == (-1))) with hc9 | hc9
      ·skip
       refine sd_see 80 (.bool true) (see_bool kr hc9) (sd_run 17 ?_)
       simp only [bd] at hc3 hc4 hc5 hc6 hc9
       have hpt : placeB k slots a1 a2 = false := by unfold placeB; simp only [Bool.or_eq_false_iff, decide_eq_false_iff_not]; omega
       have hv : planB (ofL c od rd fl tg) k rg sl slots = false := by unfold planB; rw [placesB_no (i := n) (by rw [ofL_len]; exact hlt) (hpe.trans hpt)]; rfl
       refine sdY (.bool false) hX [(iiCo c false), (inCo od false), (inCo rd false), (inCo rg false), (inCo sl false)] i5_ ⟨iiC_b, inC_b, inC_b, inC_b, inC_b, ⟨⟩⟩ ⟨(by rw [hv]), rfl⟩
      ·skip
       refine sd_see 80 (.bool false) (see_bool kr hc9) (sd_run 11 (sd_see 84 (.int .i64 ((n + 1 : Nat) : Int)) (see_int (x := (IntKind.i64.wrap ((n : Int) + 1))) kr (w64 (by omega) (by omega) (by omega))) (sd_run 2 ?_)))
       simp only [bd] at hc3 hc4 hc5 hc6 hc9
       have hpt : placeB k slots a1 a2 = true := by unfold placeB; simp only [Bool.or_eq_true, decide_eq_true_eq]; omega
       refine sd_inv R1_ kr (hR1_ _ (c.length - (n + 1)) _ e7_ (by omega) ⟨n + 1, rfl, (by omega), (fun i9 h => by rcases Nat.lt_or_eq_of_le (Nat.le_of_lt_succ h) with q | rfl; (exact i1_1 i9 q); (rw [hpe]; exact hpt)), rfl⟩ ⟨sub_of kr kr ⟨iiC_b, inC_b, inC_b, inC_b, inC_b, brn, brn, ⟨⟩⟩, te_of kr kr⟩ kr)
    ·skip
     refine sd_see 68 (.bool false) (see_bool kr hc5) (sd_run 17 ?_)
     rcases Bool.eq_false_or_eq_true (!((a2 : Int) == (-1))) with hc10 | hc10
     ·skip
      refine sd_see 80 (.bool true) (see_bool kr hc10) (sd_run 17 ?_)
      simp only [bd] at hc3 hc4 hc5 hc10
      have hpt : placeB k slots a1 a2 = false := by unfold placeB; simp only [Bool.or_eq_false_iff, decide_eq_false_iff_not]; omega
      have hv : planB (ofL c od rd fl tg) k rg sl slots = false := by unfold planB; rw [placesB_no (i := n) (by rw [ofL_len]; exact hlt) (hpe.trans hpt)]; rfl
      refine sdY (.bool false) hX [(iiCo c false), (inCo od false), (inCo rd false), (inCo rg false), (inCo sl false)] i5_ ⟨iiC_b, inC_b, inC_b, inC_b, inC_b, ⟨⟩⟩ ⟨(by rw [hv]), rfl⟩
     ·skip
      refine sd_see 80 (.bool false) (see_bool kr hc10) (sd_run 11 (sd_see 84 (.int .i64 ((n + 1 : Nat) : Int)) (see_int (x := (IntKind.i64.wrap ((n : Int) + 1))) kr (w64 (by omega) (by omega) (by omega))) (sd_run 2 ?_)))
      simp only [bd] at hc3 hc4 hc5 hc10
      have hpt : placeB k slots a1 a2 = true := by unfold placeB; simp only [Bool.or_eq_true, decide_eq_true_eq]; omega
      refine sd_inv R1_ kr (hR1_ _ (c.length - (n + 1)) _ e7_ (by omega) ⟨n + 1, rfl, (by omega), (fun i9 h => by rcases Nat.lt_or_eq_of_le (Nat.le_of_lt_succ h) with q | rfl; (exact i1_1 i9 q); (rw [hpe]; exact hpt)), rfl⟩ ⟨sub_of kr kr ⟨iiC_b, inC_b, inC_b, inC_b, inC_b, brn, brn, ⟨⟩⟩, te_of kr kr⟩ kr)
   ·skip
    refine sd_see 62 (.bool false) (see_bool kr hc4) (sd_run 11 ?_)
    rcases Bool.eq_false_or_eq_true (decide ((a2 : Int) ≥ 0)) with hc11 | hc11
    ·skip
     refine sd_see 68 (.bool true) (see_bool kr hc11) (sd_run 6 ?_)
     rcases Bool.eq_false_or_eq_true (decide ((a2 : Int) < slots)) with hc12 | hc12
     ·skip
      refine sd_see 74 (.bool true) (see_bool kr hc12) (sd_run 16 ?_)
      rcases Bool.eq_false_or_eq_true (!((a1 : Int) == (-1))) with hc13 | hc13
      ·skip
       refine sd_see 83 (.bool true) (see_bool kr hc13) (sd_run 12 ?_)
       simp only [bd] at hc3 hc4 hc11 hc12 hc13
       have hpt : placeB k slots a1 a2 = false := by unfold placeB; simp only [Bool.or_eq_false_iff, decide_eq_false_iff_not]; omega
       have hv : planB (ofL c od rd fl tg) k rg sl slots = false := by unfold planB; rw [placesB_no (i := n) (by rw [ofL_len]; exact hlt) (hpe.trans hpt)]; rfl
       refine sdY (.bool false) hX [(iiCo c false), (inCo od false), (inCo rd false), (inCo rg false), (inCo sl false)] i5_ ⟨iiC_b, inC_b, inC_b, inC_b, inC_b, ⟨⟩⟩ ⟨(by rw [hv]), rfl⟩
      ·skip
       refine sd_see 83 (.bool false) (see_bool kr hc13) (sd_run 6 (sd_see 84 (.int .i64 ((n + 1 : Nat) : Int)) (see_int (x := (IntKind.i64.wrap ((n : Int) + 1))) kr (w64 (by omega) (by omega) (by omega))) (sd_run 2 ?_)))
       simp only [bd] at hc3 hc4 hc11 hc12 hc13
       have hpt : placeB k slots a1 a2 = true := by unfold placeB; simp only [Bool.or_eq_true, decide_eq_true_eq]; omega
       refine sd_inv R1_ kr (hR1_ _ (c.length - (n + 1)) _ e7_ (by omega) ⟨n + 1, rfl, (by omega), (fun i9 h => by rcases Nat.lt_or_eq_of_le (Nat.le_of_lt_succ h) with q | rfl; (exact i1_1 i9 q); (rw [hpe]; exact hpt)), rfl⟩ ⟨sub_of kr kr ⟨iiC_b, inC_b, inC_b, inC_b, inC_b, brn, brn, ⟨⟩⟩, te_of kr kr⟩ kr)
     ·skip
      refine sd_see 74 (.bool false) (see_bool kr hc12) (sd_run 28 ?_)
      simp only [bd] at hc3 hc4 hc11 hc12
      have hpt : placeB k slots a1 a2 = false := by unfold placeB; simp only [Bool.or_eq_false_iff, decide_eq_false_iff_not]; omega
      have hv : planB (ofL c od rd fl tg) k rg sl slots = false := by unfold planB; rw [placesB_no (i := n) (by rw [ofL_len]; exact hlt) (hpe.trans hpt)]; rfl
      refine sdY (.bool false) hX [(iiCo c false), (inCo od false), (inCo rd false), (inCo rg false), (inCo sl false)] i5_ ⟨iiC_b, inC_b, inC_b, inC_b, inC_b, ⟨⟩⟩ ⟨(by rw [hv]), rfl⟩
    ·skip
     refine sd_see 68 (.bool false) (see_bool kr hc11) (sd_run 34 ?_)
     simp only [bd] at hc3 hc4 hc11
     have hpt : placeB k slots a1 a2 = false := by unfold placeB; simp only [Bool.or_eq_false_iff, decide_eq_false_iff_not]; omega
     have hv : planB (ofL c od rd fl tg) k rg sl slots = false := by unfold planB; rw [placesB_no (i := n) (by rw [ofL_len]; exact hlt) (hpe.trans hpt)]; rfl
     refine sdY (.bool false) hX [(iiCo c false), (inCo od false), (inCo rd false), (inCo rg false), (inCo sl false)] i5_ ⟨iiC_b, inC_b, inC_b, inC_b, inC_b, ⟨⟩⟩ ⟨(by rw [hv]), rfl⟩
  ·skip
   refine sd_see 57 (.bool false) (see_bool kr hc3) (sd_run 16 ?_)
   rcases Bool.eq_false_or_eq_true (decide ((a2 : Int) ≥ 0)) with hc14 | hc14
   ·skip
    refine sd_see 68 (.bool true) (see_bool kr hc14) (sd_run 6 ?_)
    rcases Bool.eq_false_or_eq_true (decide ((a2 : Int) < slots)) with hc15 | hc15
    ·skip
     refine sd_see 74 (.bool true) (see_bool kr hc15) (sd_run 16 ?_)
     rcases Bool.eq_false_or_eq_true (!((a1 : Int) == (-1))) with hc16 | hc16
     ·skip
      refine sd_see 83 (.bool true) (see_bool kr hc16) (sd_run 12 ?_)
      simp only [bd] at hc3 hc14 hc15 hc16
      have hpt : placeB k slots a1 a2 = false := by unfold placeB; simp only [Bool.or_eq_false_iff, decide_eq_false_iff_not]; omega
      have hv : planB (ofL c od rd fl tg) k rg sl slots = false := by unfold planB; rw [placesB_no (i := n) (by rw [ofL_len]; exact hlt) (hpe.trans hpt)]; rfl
      refine sdY (.bool false) hX [(iiCo c false), (inCo od false), (inCo rd false), (inCo rg false), (inCo sl false)] i5_ ⟨iiC_b, inC_b, inC_b, inC_b, inC_b, ⟨⟩⟩ ⟨(by rw [hv]), rfl⟩
     ·skip
      refine sd_see 83 (.bool false) (see_bool kr hc16) (sd_run 6 (sd_see 84 (.int .i64 ((n + 1 : Nat) : Int)) (see_int (x := (IntKind.i64.wrap ((n : Int) + 1))) kr (w64 (by omega) (by omega) (by omega))) (sd_run 2 ?_)))
      simp only [bd] at hc3 hc14 hc15 hc16
      have hpt : placeB k slots a1 a2 = true := by unfold placeB; simp only [Bool.or_eq_true, decide_eq_true_eq]; omega
      refine sd_inv R1_ kr (hR1_ _ (c.length - (n + 1)) _ e7_ (by omega) ⟨n + 1, rfl, (by omega), (fun i9 h => by rcases Nat.lt_or_eq_of_le (Nat.le_of_lt_succ h) with q | rfl; (exact i1_1 i9 q); (rw [hpe]; exact hpt)), rfl⟩ ⟨sub_of kr kr ⟨iiC_b, inC_b, inC_b, inC_b, inC_b, brn, brn, ⟨⟩⟩, te_of kr kr⟩ kr)
    ·skip
     refine sd_see 74 (.bool false) (see_bool kr hc15) (sd_run 28 ?_)
     simp only [bd] at hc3 hc14 hc15
     have hpt : placeB k slots a1 a2 = false := by unfold placeB; simp only [Bool.or_eq_false_iff, decide_eq_false_iff_not]; omega
     have hv : planB (ofL c od rd fl tg) k rg sl slots = false := by unfold planB; rw [placesB_no (i := n) (by rw [ofL_len]; exact hlt) (hpe.trans hpt)]; rfl
     refine sdY (.bool false) hX [(iiCo c false), (inCo od false), (inCo rd false), (inCo rg false), (inCo sl false)] i5_ ⟨iiC_b, inC_b, inC_b, inC_b, inC_b, ⟨⟩⟩ ⟨(by rw [hv]), rfl⟩
   ·skip
    refine sd_see 68 (.bool false) (see_bool kr hc14) (sd_run 34 ?_)
    simp only [bd] at hc3 hc14
    have hpt : placeB k slots a1 a2 = false := by unfold placeB; simp only [Bool.or_eq_false_iff, decide_eq_false_iff_not]; omega
    have hv : planB (ofL c od rd fl tg) k rg sl slots = false := by unfold planB; rw [placesB_no (i := n) (by rw [ofL_len]; exact hlt) (hpe.trans hpt)]; rfl
    refine sdY (.bool false) hX [(iiCo c false), (inCo od false), (inCo rd false), (inCo rg false), (inCo sl false)] i5_ ⟨iiC_b, inC_b, inC_b, inC_b, inC_b, ⟨⟩⟩ ⟨(by rw [hv]), rfl⟩
 ·skip
  obtain rfl : n = c.length := by omega
  refine sd_run 3 (sdF 46 ((c.length : Int) < (c.length : Int)) (by omega) kr (sd_run 12 (sdC 86 26 #[(pgV (s5 0 c.length) nd nr hd hr (s1 1 od.length) (s1 2 rd.length) fl nx tg br tk ct (c.length : Int))] (@of_s c od rd nd nr hd hr fl nx tg br tk ct hR (by omega) (by omega) hi) i3_ ⟨iiC_b, inC_b, inC_b, ⟨⟩⟩ ?_)))
  rintro hn9 v9 k9 ⟨rfl, rfl⟩
  refine mkG (.slice (some ⟨7, 0, none⟩) c.length (unk + 3)) [(iiCo c false), (inCo od false), (inCo rd false), (inCo rg false), (inCo sl false), some ⟨[(s5 0 c.length), .int .i64 nd, .int .i64 nr, .int .i64 hd, .int .i64 hr, (s1 1 od.length), (s1 2 rd.length), .int .i64 fl, .int .u32 nx, .int .i64 tg, .int .i64 br, .int .u32 tk, .int .i64 ct, .int .i64 (c.length : Int)], 29, false⟩, some ⟨[Value.slice (some ⟨3, 0, none⟩) c.length kc, .slice (some ⟨4, 0, none⟩) c.length kd, .int .i64 slots], 38, false⟩, (ivCo (ofL c od rd fl tg) false)] ⟨cvs 0 hn9, cvs 1 hn9, cvs 2 hn9, cvo, cvo, cvo, cvo, ivC_c 3, ⟨⟩⟩ ?_
  refine sd_run 8 (sdCp 90 30 #[.slice (some ⟨7, 0, none⟩) c.length (unk + 3), .slice (some ⟨3, 0, none⟩) c.length kc] (@apart_s (ofL c od rd fl tg) rg c.length kc (by rw [ofL_len]) (by omega) (by omega)) [some 7, some 3] ⟨ivC_b, inC_b, ⟨⟩⟩ ?_)
  rintro v9 k9 ⟨rfl, rfl⟩
  refine ⟨rfl, .bool (apartB (ofL c od rd fl tg) rg), kr, ?_⟩
  refine sd_run 1 ?_
  rcases Bool.eq_false_or_eq_true (apartB (ofL c od rd fl tg) rg) with hc17 | hc17
  ·skip
   refine sd_see 91 (.bool true) (see_bool kr hc17) (sd_run 3 (sdCp 95 30 #[.slice (some ⟨7, 0, none⟩) c.length (unk + 3), .slice (some ⟨4, 0, none⟩) c.length kd] (@apart_s (ofL c od rd fl tg) sl c.length kd (by rw [ofL_len]) (by omega) (by omega)) [some 7, some 4] ⟨ivC_b, inC_b, ⟨⟩⟩ ?_))
   rintro v9 k9 ⟨rfl, rfl⟩
   refine ⟨rfl, .bool (apartB (ofL c od rd fl tg) sl), kr, ?_⟩
   refine sd_run 5 ?_
   have hpl : placesB k slots rg sl (ofL c od rd fl tg).length = true := by rw [ofL_len]; exact placesB_iff.2 i1_1
   have hv : planB (ofL c od rd fl tg) k rg sl slots = (apartB (ofL c od rd fl tg) sl) := by unfold planB; rw [hpl]; simp [hc17]
   refine sdY (.bool (apartB (ofL c od rd fl tg) sl)) hX [(iiCo c false), (inCo od false), (inCo rd false), (inCo rg false), (inCo sl false)] i5_ ⟨iiC_b, inC_b, inC_b, inC_b, inC_b, ⟨⟩⟩ ⟨(by rw [hv]), rfl⟩
  ·skip
   refine sd_see 91 (.bool false) (see_bool kr hc17) (sd_run 9 ?_)
   have hpl : placesB k slots rg sl (ofL c od rd fl tg).length = true := by rw [ofL_len]; exact placesB_iff.2 i1_1
   have hv : planB (ofL c od rd fl tg) k rg sl slots = false := by unfold planB; rw [hpl]; simp [hc17]
   refine sdY (.bool false) hX [(iiCo c false), (inCo od false), (inCo rd false), (inCo rg false), (inCo sl false)] i5_ ⟨iiC_b, inC_b, inC_b, inC_b, inC_b, ⟨⟩⟩ ⟨(by rw [hv]), rfl⟩
end Ls
end Go.Proofs.Ytegjicaoemhhlaa
