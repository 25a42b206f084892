/- Chapter 21: the document's intervals. -/
import Derived.Test.YtegjicaoemhhlaaJq
import Derived.Test.YtegjicaoemhhlaaJj
namespace Go.Proofs.Ytegjicaoemhhlaa
open Go Go.Ev Go.RowKit
set_option linter.unusedVariables false
set_option linter.unusedSimpArgs false
set_option maxRecDepth 100000
namespace Ls
def TB (t : Int) (l : List IV) : Prop := ∀ (i : Nat) (a : IV), l[i]? = some a → a.2.2 ≤ max (i : Int) t
theorem tb_set {t : Int} {l : List IV} {n : Nat} {a : IV} (h : TB t l) : TB t (l.set n (a.1, a.2.1, t)) := fun i b hb => by
 by_cases hi : n = i
 ·subst hi
  have hl := (List.getElem?_eq_some_iff.1 hb).1
  rw [List.length_set] at hl
  rw [List.getElem?_set_self hl] at hb; cases hb
  dsimp only; omega
 ·rw [List.getElem?_set_ne hi] at hb; exact h i b hb
theorem usel_to {t : Int} {l : List IV} {n : Nat} {a : IV} (ha : l[n]? = some a) (h : TB t l) (hn : (n : Int) ≤ t) : l.set n (a.1, a.2.1, t) = usel t l n := by
 have h1 := h n a ha
 unfold usel; rw [ha]
 have : max a.2.2 t = t := by omega
 simp only [this]
theorem tb_use {t : Int} {l : List IV} {n : Nat} (h : TB t l) : TB t (usel t l n) := by
 cases ha : l[n]? with
 | none => unfold usel; rw [ha]; exact h
 | some a =>
  unfold usel; rw [ha]
  intro i b hb
  by_cases hi : n = i
  ·subst hi
   have hl := (List.getElem?_eq_some_iff.1 hb).1
   rw [List.length_set] at hl
   rw [List.getElem?_set_self hl] at hb; cases hb
   have := h n a ha
   dsimp only; omega
  ·dsimp only at hb; rw [List.getElem?_set_ne hi] at hb; exact h i b hb
theorem tb_useI {t : Int} {l : List IV} {n : Int} (h : TB t l) : TB t (useI t l n) := by unfold useI; split; exact tb_use h; exact h
theorem TB.mono {t u : Int} {l : List IV} (h : TB t l) (hu : t ≤ u) : TB u l := fun i a ha => by have := h i a ha; omega
theorem tb_code (c : List II) : ∀ k : Nat, TB (k : Int) (codeL c k)
 | 0 => fun i a ha => by
  have : a = ((i : Int), (i : Int), (i : Int)) := by
   obtain ⟨hi, rfl⟩ := List.getElem?_eq_some_iff.1 ha
   simp [codeL, seedl]
  subst this
  dsimp only; omega
 | k + 1 => by
  have h := tb_code c k
  unfold codeL
  split
  ·split
   ·exact (tb_useI (tb_useI h)).mono (by omega)
   ·exact h.mono (by omega)
  ·exact h.mono (by omega)
theorem tb_out {t : Int} : ∀ (xs : List Int) {l : List IV}, TB t l → TB t (outL t l xs)
 | [], l, h => h
 | x :: xs, l, h => tb_out xs (tb_useI (n := x) h)
def cntT (l : List IV) (x : Int) (j : Nat) : Nat := ((l.take j).filter fun b => liveAt b x).length
theorem cntT_succ {l : List IV} {j : Nat} {b : IV} {x : Int} (h : l[j]? = some b) : cntT l x (j + 1) = cntT l x j + (if liveAt b x = true then 1 else 0) := by
 unfold cntT
 rw [List.take_add_one, h, List.filter_append, List.length_append]
 cases hb : liveAt b x <;> simp [hb]
theorem cntT_all (l : List IV) (x : Int) : cntT l x l.length = cntAt l x := by unfold cntT cntAt; rw [List.take_length]
theorem cntT_le (l : List IV) (x : Int) (j : Nat) : cntT l x j ≤ l.length := by
 unfold cntT; refine Nat.le_trans (List.length_filter_le _ _) ?_; rw [List.length_take]; omega
theorem cntAt_le (l : List IV) (x : Int) : cntAt l x ≤ l.length := List.length_filter_le _ _
noncomputable def f16b : Code := Try.f16.body.getD .skip
theorem f16_body : Try.f16.body = some f16b := by kernel_rfl
theorem f16_fn : T16.fn 16 = some Try.f16 := by kernel_rfl
set_option maxHeartbeats 4000000 in
theorem of20_s {c : List II} {od rd : List Int} {nd nr hd hr fl nx tg br tk ct : Int} (hR : RightP c od rd nd nr hd hr fl tg br ct (c.length : Int)) (hcl : c.length < 100000) (hol : od.length < 100000) (hrl : rd.length < 100000) (hi : ∀ x ∈ c, 0 ≤ x.2.2.2.2 ∧ x.2.2.2.2 < 4294967296) : SCall Try.prog T16 16 #[(pgV (s5 0 c.length) nd nr hd hr (s1 1 od.length) (s1 2 rd.length) fl nx tg br tk ct (c.length : Int))] (hq [(iiCo c false), (inCo od false), (inCo rd false)]) fun v h => v = .slice (some ⟨3, 0, none⟩) c.length (unk + 3) ∧ h = hq [(iiCo c false), (inCo od false), (inCo rd false), some ⟨(tab ivC (ofL c od rd fl tg)), 53, false⟩] := by
 have hlen := hR.len
 refine scall_sd 95 _ 3 kr f16_fn f16_body rfl rfl rfl fun X hX => ?_
 refine sd_run 10 (sdCp 12 20 #[(pgV (s5 0 c.length) nd nr hd hr (s1 1 od.length) (s1 2 rd.length) fl nx tg br tk ct (c.length : Int))] (@rright_s c od rd nd nr hd hr fl nx tg br tk ct hR hol hrl hi) i3_ ⟨iiC_b, inC_b, inC_b, ⟨⟩⟩ ?_)
 rintro v9 k9 ⟨rfl, rfl⟩
 refine ⟨rfl, .bool true, kr, ?_⟩
 refine sd_run 26 ?_
 refine sd_loop 95 (cl (cl (cr (cl (cr (cr (cr (cr f16b)))))))) [.blk 0, .next (cr (cr (cr (cr (cr f16b)))))] kr kr kr (fun m9 s9 => ∃ (k : Nat), m9 = c.length - k ∧ (k ≤ c.length) ∧ s9 = ⟨tmL [(1, .pointer (some ⟨3, 0, none⟩)), (3, .int .i64 (c.length : Int)), (4, .slice (some ⟨4, 0, none⟩) k (unk + 3)), (5, .int .i64 (k : Int))], hq [(iiCo c false), (inCo od false), (inCo rd false), some ⟨[(s5 0 c.length), .int .i64 nd, .int .i64 nr, .int .i64 hd, .int .i64 hr, (s1 1 od.length), (s1 2 rd.length), .int .i64 fl, .int .u32 nx, .int .i64 tg, .int .i64 br, .int .u32 tk, .int .i64 ct, .int .i64 (c.length : Int)], 29, false⟩, some ⟨(tab ivC (seedl k)), 53, false⟩]⟩) (c.length - 0) _ (emOf [some 0, some 1, some 2, some 3, none]) hX ⟨0, rfl, (by omega), rfl⟩ ⟨sub_of kr kr ⟨iiC_b, inC_b, inC_b, brn, rfl, ⟨⟩⟩, te_of kr kr⟩ kr ?_
 rintro m9 s9 ⟨k, rfl, i1_0, rfl⟩ R1_ hR1_
 by_cases hlt : k < c.length
 ·skip
  refine sd_run 6 (sdT 19 ((k : Int) < (c.length : Int)) (by omega) kr (sd_run 14 (sd_grow 28 47 47 53 2 23 4 k 1 6 (.slice (some ⟨5, 0, none⟩) 1 1) (tab ivC (seedl k)) [Value.int .i64 (k : Int), .int .i64 (k : Int), .int .i64 (k : Int)] (tab ivC (seedl k ++ [((k : Int), (k : Int), (k : Int))])) kr kr kr kr kr ((tab_len ivC_len _).trans (by rw [seedl_len])) kr kr (by decide) kr (by omega) kr (tab_snoc (seedl k) ((k : Int), (k : Int), (k : Int))) (sd_run 7 (sd_see 21 (.int .i64 ((k + 1 : Nat) : Int)) (see_int (x := (IntKind.i64.wrap ((k : Int) + 1))) kr (w64 (by omega) (by omega) (by omega))) (sd_run 2 ?_))))))
  refine sd_inv R1_ kr (hR1_ _ (c.length - (k + 1)) _ (emOf [some 0, some 1, some 2, some 3, some 6]) (by omega) ⟨k + 1, rfl, (by omega), rfl⟩ ⟨sub_of kr kr ⟨iiC_b, inC_b, inC_b, brn, bk_flat (tab ivC (seedl k ++ [((k : Int), (k : Int), (k : Int))])) kr (tab_plain ivC_pl _) (congrArg (tab ivC) (seedl_succ k)), ⟨⟩⟩, te_of kr kr⟩ kr)
 ·skip
  obtain rfl : k = c.length := by omega
  refine sd_run 6 (sdF 19 ((c.length : Int) < (c.length : Int)) (by omega) kr (sd_run 15 ?_))
  refine sd_loop 95 (cl (cl (cr (cl (cr (cr (cr (cr (cr f16b))))))))) [.blk 2, .next (cr (cr (cr (cr (cr (cr f16b))))))] kr kr kr (fun m9 s9 => ∃ (k : Nat), m9 = c.length - k ∧ (k ≤ c.length) ∧ s9 = ⟨tmL [(1, .pointer (some ⟨3, 0, none⟩)), (3, .int .i64 (c.length : Int)), (4, .slice (some ⟨4, 0, none⟩) c.length (unk + 3)), (6, .int .i64 (k : Int))], hq [(iiCo c false), (inCo od false), (inCo rd false), some ⟨[(s5 0 c.length), .int .i64 nd, .int .i64 nr, .int .i64 hd, .int .i64 hr, (s1 1 od.length), (s1 2 rd.length), .int .i64 fl, .int .u32 nx, .int .i64 tg, .int .i64 br, .int .u32 tk, .int .i64 ct, .int .i64 (c.length : Int)], 29, false⟩, some ⟨(tab ivC (codeL c k)), 53, false⟩]⟩) (c.length - 0) _ e5_ hX ⟨0, rfl, (by omega), rfl⟩ ⟨sub_of kr kr ⟨iiC_b, inC_b, inC_b, brn, bk_flat (tab ivC (seedl c.length)) kr (tab_plain ivC_pl _) (congrArg (tab ivC) (by rfl)), ⟨⟩⟩, te_of kr kr⟩ kr ?_
  rintro m9 s9 ⟨k, rfl, i2_0, rfl⟩ R2_ hR2_
  by_cases hltB : k < c.length
  ·skip
   obtain ⟨a1, ha1⟩ : ∃ x_, (c)[k]? = some x_ := ⟨_, List.getElem?_eq_getElem (by omega)⟩
   have hmd := hR.code k a1 ha1
   rcases (by omega : a1.1 = 3 ∨ a1.1 = 4 ∨ (a1.1 ≠ 3 ∧ a1.1 ≠ 4)) with hop | hop | hop
   ·skip
    obtain ⟨⟨qa1, qa2⟩, qb1, qb2⟩ := made_ab hmd (by omega)
    obtain ⟨A, hA⟩ := Int.eq_ofNat_of_zero_le qa1
    obtain ⟨B, hB⟩ := Int.eq_ofNat_of_zero_le qb1
    have tb0 := tb_code c k
    refine sd_run 6 (sdT 31 ((k : Int) < (c.length : Int)) (by omega) kr (sd_run 12 (sd_ix 37 (.pointer (some ⟨0, 0 + k * 5, none⟩)) k c.length kr kr kr (by omega) (sd_ld 38 (.agg #[.int .i64 a1.1, .int .i64 a1.2.1, .int .i64 a1.2.2.1, .int .i64 a1.2.2.2.1, .int .u32 a1.2.2.2.2]) 61 (.pointer (some ⟨0, 0 + k * 5, none⟩)) kr kr kr (ld_row (l := c) (e := 61) (ro := false) (k := k) iiC_len kr kr kr ha1) (sd_run 8 (sd_see 40 (.int .i64 3) (see_int (x := a1.1) kr (by omega)) (sd_run 14 ?_)))))))
    refine sd_see 49 (.int .i64 (A : Int)) (see_int (x := a1.2.2.1) kr hA) (sd_run 1 (sd_ix 51 (.pointer (some ⟨4, 0 + A * 3, none⟩)) A c.length kr kr kr (by omega) ?_))
    obtain ⟨a2, ha2⟩ : ∃ x_, (codeL c k)[A]? = some x_ := ⟨_, List.getElem?_eq_getElem (by simp; omega)⟩
    have ua2 := usel_to ha2 tb0 (by omega)
    have ta2 := tb_set (n := A) (a := a2) tb0
    refine sd_run 1 (sd_st 3 4 (0 + A * 3 + 2) (.int .i64 (k : Int)) (tab ivC ((codeL c k).set A (a2.1, a2.2.1, (k : Int)))) (cells := tab ivC (codeL c k)) (e := 53) kr kr kr kr (st_cell (k := A) (j := 2) (a' := (a2.1, a2.2.1, (k : Int))) ivC_len kr kr ha2 kr rfl) (sd_run 6 (sd_see 55 (.int .i64 (B : Int)) (see_int (x := a1.2.2.2.1) kr hB) (sd_run 1 (sd_ix 57 (.pointer (some ⟨4, 0 + B * 3, none⟩)) B c.length kr kr kr (by omega) ?_)))))
    obtain ⟨a3, ha3⟩ : ∃ x_, ((codeL c k).set A (a2.1, a2.2.1, (k : Int)))[B]? = some x_ := ⟨_, List.getElem?_eq_getElem (by simp; omega)⟩
    have ua3 := usel_to ha3 ta2 (by omega)
    have ta3 := tb_set (n := B) (a := a3) ta2
    refine sd_run 1 (sd_st 3 4 (0 + B * 3 + 2) (.int .i64 (k : Int)) (tab ivC (((codeL c k).set A (a2.1, a2.2.1, (k : Int))).set B (a3.1, a3.2.1, (k : Int)))) (cells := tab ivC ((codeL c k).set A (a2.1, a2.2.1, (k : Int)))) (e := 53) kr kr kr kr (st_cell (k := B) (j := 2) (a' := (a3.1, a3.2.1, (k : Int))) ivC_len kr kr ha3 kr rfl) (sd_run 6 (sd_see 33 (.int .i64 ((k + 1 : Nat) : Int)) (see_int (x := (IntKind.i64.wrap ((k : Int) + 1))) kr (w64 (by omega) (by omega) (by omega))) (sd_run 2 ?_))))
    refine sd_inv R2_ kr (hR2_ _ (c.length - (k + 1)) _ e5_ (by omega) ⟨k + 1, rfl, (by omega), rfl⟩ ⟨sub_of kr kr ⟨iiC_b, inC_b, inC_b, brn, bk_flat (tab ivC (((codeL c k).set A (a2.1, a2.2.1, (k : Int))).set B (a3.1, a3.2.1, (k : Int)))) kr (tab_plain ivC_pl _) (congrArg (tab ivC) (by rw [codeL_use ha1 (by omega), hA, hB, useI_nat, useI_nat, ← ua2, ← ua3])), ⟨⟩⟩, te_of kr kr⟩ kr)
   ·skip
    obtain ⟨⟨qa1, qa2⟩, qb1, qb2⟩ := made_ab hmd (by omega)
    obtain ⟨A, hA⟩ := Int.eq_ofNat_of_zero_le qa1
    obtain ⟨B, hB⟩ := Int.eq_ofNat_of_zero_le qb1
    have tb0 := tb_code c k
    refine sd_run 6 (sdT 31 ((k : Int) < (c.length : Int)) (by omega) kr (sd_run 12 (sd_ix 37 (.pointer (some ⟨0, 0 + k * 5, none⟩)) k c.length kr kr kr (by omega) (sd_ld 38 (.agg #[.int .i64 a1.1, .int .i64 a1.2.1, .int .i64 a1.2.2.1, .int .i64 a1.2.2.2.1, .int .u32 a1.2.2.2.2]) 61 (.pointer (some ⟨0, 0 + k * 5, none⟩)) kr kr kr (ld_row (l := c) (e := 61) (ro := false) (k := k) iiC_len kr kr kr ha1) (sd_run 8 (sd_see 40 (.int .i64 4) (see_int (x := a1.1) kr (by omega)) (sd_run 4 ?_)))))))
    refine sd_see 44 (.int .i64 4) (see_int (x := a1.1) kr (by omega)) (sd_run 10 (sd_see 49 (.int .i64 (A : Int)) (see_int (x := a1.2.2.1) kr hA) (sd_run 1 (sd_ix 51 (.pointer (some ⟨4, 0 + A * 3, none⟩)) A c.length kr kr kr (by omega) ?_))))
    obtain ⟨a4, ha4⟩ : ∃ x_, (codeL c k)[A]? = some x_ := ⟨_, List.getElem?_eq_getElem (by simp; omega)⟩
    have ua4 := usel_to ha4 tb0 (by omega)
    have ta4 := tb_set (n := A) (a := a4) tb0
    refine sd_run 1 (sd_st 3 4 (0 + A * 3 + 2) (.int .i64 (k : Int)) (tab ivC ((codeL c k).set A (a4.1, a4.2.1, (k : Int)))) (cells := tab ivC (codeL c k)) (e := 53) kr kr kr kr (st_cell (k := A) (j := 2) (a' := (a4.1, a4.2.1, (k : Int))) ivC_len kr kr ha4 kr rfl) (sd_run 6 (sd_see 55 (.int .i64 (B : Int)) (see_int (x := a1.2.2.2.1) kr hB) (sd_run 1 (sd_ix 57 (.pointer (some ⟨4, 0 + B * 3, none⟩)) B c.length kr kr kr (by omega) ?_)))))
    obtain ⟨a5, ha5⟩ : ∃ x_, ((codeL c k).set A (a4.1, a4.2.1, (k : Int)))[B]? = some x_ := ⟨_, List.getElem?_eq_getElem (by simp; omega)⟩
    have ua5 := usel_to ha5 ta4 (by omega)
    have ta5 := tb_set (n := B) (a := a5) ta4
    refine sd_run 1 (sd_st 3 4 (0 + B * 3 + 2) (.int .i64 (k : Int)) (tab ivC (((codeL c k).set A (a4.1, a4.2.1, (k : Int))).set B (a5.1, a5.2.1, (k : Int)))) (cells := tab ivC ((codeL c k).set A (a4.1, a4.2.1, (k : Int)))) (e := 53) kr kr kr kr (st_cell (k := B) (j := 2) (a' := (a5.1, a5.2.1, (k : Int))) ivC_len kr kr ha5 kr rfl) (sd_run 6 (sd_see 33 (.int .i64 ((k + 1 : Nat) : Int)) (see_int (x := (IntKind.i64.wrap ((k : Int) + 1))) kr (w64 (by omega) (by omega) (by omega))) (sd_run 2 ?_))))
    refine sd_inv R2_ kr (hR2_ _ (c.length - (k + 1)) _ e5_ (by omega) ⟨k + 1, rfl, (by omega), rfl⟩ ⟨sub_of kr kr ⟨iiC_b, inC_b, inC_b, brn, bk_flat (tab ivC (((codeL c k).set A (a4.1, a4.2.1, (k : Int))).set B (a5.1, a5.2.1, (k : Int)))) kr (tab_plain ivC_pl _) (congrArg (tab ivC) (by rw [codeL_use ha1 (by omega), hA, hB, useI_nat, useI_nat, ← ua4, ← ua5])), ⟨⟩⟩, te_of kr kr⟩ kr)
   ·skip
    refine sd_run 6 (sdT 31 ((k : Int) < (c.length : Int)) (by omega) kr (sd_run 12 (sd_ix 37 (.pointer (some ⟨0, 0 + k * 5, none⟩)) k c.length kr kr kr (by omega) (sd_ld 38 (.agg #[.int .i64 a1.1, .int .i64 a1.2.1, .int .i64 a1.2.2.1, .int .i64 a1.2.2.2.1, .int .u32 a1.2.2.2.2]) 61 (.pointer (some ⟨0, 0 + k * 5, none⟩)) kr kr kr (ld_row (l := c) (e := 61) (ro := false) (k := k) iiC_len kr kr kr ha1) (sd_run 9 (sd_see 41 (.bool false) (see_bool (x := ((a1.1 : Int) == 3)) kr (beq_eq_false_iff_ne.2 (by omega))) (sd_run 4 ?_)))))))
    refine sd_see 45 (.bool false) (see_bool (x := ((a1.1 : Int) == 4)) kr (beq_eq_false_iff_ne.2 (by omega))) (sd_run 10 (sd_see 33 (.int .i64 ((k + 1 : Nat) : Int)) (see_int (x := (IntKind.i64.wrap ((k : Int) + 1))) kr (w64 (by omega) (by omega) (by omega))) (sd_run 2 ?_)))
    refine sd_inv R2_ kr (hR2_ _ (c.length - (k + 1)) _ e5_ (by omega) ⟨k + 1, rfl, (by omega), rfl⟩ ⟨sub_of kr kr ⟨iiC_b, inC_b, inC_b, brn, bk_flat (tab ivC (codeL c k)) kr (tab_plain ivC_pl _) (congrArg (tab ivC) (codeL_no ha1 (by omega)).symm), ⟨⟩⟩, te_of kr kr⟩ kr)
  ·skip
   obtain rfl : k = c.length := by omega
   refine sd_run 6 (sdF 31 ((c.length : Int) < (c.length : Int)) (by omega) kr (sd_run 51 ?_))
   refine sd_loop 95 (cl (cl (cr (cr (cl (cl (cr (cr (cl (cl (cr (cl (cr (cr (cr (cr (cr (cr f16b)))))))))))))))))) [.blk 6, .blk 5, .next (cr (cr (cr (cl (cl (cr (cl (cr (cr (cr (cr (cr (cr f16b))))))))))))), .loop (cl (cl (cr (cl (cr (cr (cr (cr (cr (cr f16b)))))))))), .blk 4, .next (cr (cr (cr (cr (cr (cr (cr f16b)))))))] kr kr kr (fun m9 s9 => ∃ (j : Nat), m9 = od.length - j ∧ (j ≤ od.length) ∧ s9 = ⟨tmL [(3, .int .i64 (c.length : Int)), (4, .slice (some ⟨4, 0, none⟩) c.length (unk + 3)), (9, (s1 1 od.length)), (10, .int .i64 (j : Int)), (68, .slice (some ⟨6, 0, none⟩) 3 3), (69, .int .i64 3), (70, .int .i64 0)], hq [(iiCo c false), (inCo od false), (inCo rd false), none, some ⟨(tab ivC (outL (c.length : Int) (codeL c c.length) (od.take j))), 53, false⟩, some ⟨[Value.int .i64 fl, .int .i64 tg], 3, false⟩, some ⟨[(s1 1 od.length), (s1 2 rd.length), .slice (some ⟨5, 0, none⟩) 2 2], 22, false⟩]⟩) (od.length - 0) _ (emOf [some 0, some 1, some 2, none, some 4, some 5, some 6]) hX ⟨0, rfl, (by omega), rfl⟩ ⟨sub_of kr kr ⟨iiC_b, inC_b, inC_b, bk_flat (tab ivC (codeL c c.length)) kr (tab_plain ivC_pl _) (congrArg (tab ivC) (by rfl)), brn, brn, ⟨⟩⟩, te_of kr kr⟩ kr ?_
   rintro m9 s9 ⟨j, rfl, i3_0, rfl⟩ R3_ hR3_
   by_cases hlt_od : j < od.length
   ·skip
    obtain ⟨a6, ha6⟩ : ∃ x_, (od)[j]? = some x_ := ⟨_, List.getElem?_eq_getElem (by omega)⟩
    obtain ⟨qa1, qa2⟩ := valB_iff.1 (hR.od_ j a6 ha6)
    obtain ⟨A, hA⟩ := Int.eq_ofNat_of_zero_le qa1
    refine sd_run 7 (sdT 77 ((j : Int) < (od.length : Int)) (by omega) kr (sd_run 11 (sd_ix 82 (.pointer (some ⟨1, 0 + j * 1, none⟩)) j od.length kr kr kr (by omega) (sd_ld 83 (.int .i64 a6) 3 (.pointer (some ⟨1, 0 + j * 1, none⟩)) kr kr kr (ld_cell (l := od) (e := 3) (ro := false) (k := j) (j := 0) inC_len kr kr kr ha6 rfl) (sd_see 83 (.int .i64 (A : Int)) (see_int (x := a6) kr hA) (sd_run 1 (sdT 84 ((A : Int) ≥ 0) (by omega) kr ?_)))))))
    refine sd_run 7 (sd_ix 88 (.pointer (some ⟨1, 0 + j * 1, none⟩)) j od.length kr kr kr (by omega) (sd_ld 89 (.int .i64 a6) 3 (.pointer (some ⟨1, 0 + j * 1, none⟩)) kr kr kr (ld_cell (l := od) (e := 3) (ro := false) (k := j) (j := 0) inC_len kr kr kr ha6 rfl) (sd_see 89 (.int .i64 (A : Int)) (see_int (x := a6) kr hA) (sd_run 1 (sd_ix 91 (.pointer (some ⟨4, 0 + A * 3, none⟩)) A c.length kr kr kr (by omega) ?_)))))
    obtain ⟨a7, ha7⟩ : ∃ x_, (outL (c.length : Int) (codeL c c.length) (od.take j))[A]? = some x_ := ⟨_, List.getElem?_eq_getElem (by simp; omega)⟩
    have ua7 := usel_to ha7 (tb_out (od.take j) (tb_code c c.length)) (by omega)
    have ta7 := tb_set (n := A) (a := a7) (tb_out (od.take j) (tb_code c c.length))
    refine sd_run 1 (sd_st 3 4 (0 + A * 3 + 2) (.int .i64 (c.length : Int)) (tab ivC ((outL (c.length : Int) (codeL c c.length) (od.take j)).set A (a7.1, a7.2.1, (c.length : Int)))) (cells := tab ivC (outL (c.length : Int) (codeL c c.length) (od.take j))) (e := 53) kr kr kr kr (st_cell (k := A) (j := 2) (a' := (a7.1, a7.2.1, (c.length : Int))) ivC_len kr kr ha7 kr rfl) (sd_run 6 (sd_see 79 (.int .i64 ((j + 1 : Nat) : Int)) (see_int (x := (IntKind.i64.wrap ((j : Int) + 1))) kr (w64 (by omega) (by omega) (by omega))) (sd_run 2 ?_))))
    refine sd_inv R3_ kr (hR3_ _ (od.length - (j + 1)) _ (emOf [some 0, some 1, some 2, none, some 4, some 5, some 6]) (by omega) ⟨j + 1, rfl, (by omega), rfl⟩ ⟨sub_of kr kr ⟨iiC_b, inC_b, inC_b, bk_flat (tab ivC ((outL (c.length : Int) (codeL c c.length) (od.take j)).set A (a7.1, a7.2.1, (c.length : Int)))) kr (tab_plain ivC_pl _) (congrArg (tab ivC) (by rw [outL_succ ha6, hA, useI_nat, ← ua7])), brn, brn, ⟨⟩⟩, te_of kr kr⟩ kr)
   ·skip
    obtain rfl : j = od.length := by omega
    refine sd_run 7 (sdF 77 ((od.length : Int) < (od.length : Int)) (by omega) kr (sd_run 39 ?_))
    refine sd_loop 95 (cl (cl (cr (cr (cl (cl (cr (cr (cl (cl (cr (cl (cr (cr (cr (cr (cr (cr f16b)))))))))))))))))) [.blk 6, .blk 5, .next (cr (cr (cr (cl (cl (cr (cl (cr (cr (cr (cr (cr (cr f16b))))))))))))), .loop (cl (cl (cr (cl (cr (cr (cr (cr (cr (cr f16b)))))))))), .blk 4, .next (cr (cr (cr (cr (cr (cr (cr f16b)))))))] kr kr kr (fun m9 s9 => ∃ (j : Nat), m9 = rd.length - j ∧ (j ≤ rd.length) ∧ s9 = ⟨tmL [(3, .int .i64 (c.length : Int)), (4, .slice (some ⟨4, 0, none⟩) c.length (unk + 3)), (9, (s1 2 rd.length)), (10, .int .i64 (j : Int)), (68, .slice (some ⟨6, 0, none⟩) 3 3), (69, .int .i64 3), (70, .int .i64 1)], hq [(iiCo c false), (inCo od false), (inCo rd false), none, some ⟨(tab ivC (outL (c.length : Int) (outL (c.length : Int) (codeL c c.length) (od.take od.length)) (rd.take j))), 53, false⟩, some ⟨[Value.int .i64 fl, .int .i64 tg], 3, false⟩, some ⟨[(s1 1 od.length), (s1 2 rd.length), .slice (some ⟨5, 0, none⟩) 2 2], 22, false⟩]⟩) (rd.length - 0) _ (emOf [some 0, some 1, some 2, none, some 4, some 5, some 6]) hX ⟨0, rfl, (by omega), rfl⟩ ⟨sub_of kr kr ⟨iiC_b, inC_b, inC_b, bk_flat (tab ivC (outL (c.length : Int) (codeL c c.length) (od.take od.length))) kr (tab_plain ivC_pl _) (congrArg (tab ivC) (by rfl)), brn, brn, ⟨⟩⟩, te_of kr kr⟩ kr ?_
    rintro m9 s9 ⟨j, rfl, i4_0, rfl⟩ R4_ hR4_
    by_cases hlt_rd : j < rd.length
    ·skip
     obtain ⟨a8, ha8⟩ : ∃ x_, (rd)[j]? = some x_ := ⟨_, List.getElem?_eq_getElem (by omega)⟩
     obtain ⟨qa1, qa2⟩ := valB_iff.1 (hR.rd_ j a8 ha8)
     obtain ⟨A, hA⟩ := Int.eq_ofNat_of_zero_le qa1
     refine sd_run 7 (sdT 77 ((j : Int) < (rd.length : Int)) (by omega) kr (sd_run 11 (sd_ix 82 (.pointer (some ⟨2, 0 + j * 1, none⟩)) j rd.length kr kr kr (by omega) (sd_ld 83 (.int .i64 a8) 3 (.pointer (some ⟨2, 0 + j * 1, none⟩)) kr kr kr (ld_cell (l := rd) (e := 3) (ro := false) (k := j) (j := 0) inC_len kr kr kr ha8 rfl) (sd_see 83 (.int .i64 (A : Int)) (see_int (x := a8) kr hA) (sd_run 1 (sdT 84 ((A : Int) ≥ 0) (by omega) kr ?_)))))))
     refine sd_run 7 (sd_ix 88 (.pointer (some ⟨2, 0 + j * 1, none⟩)) j rd.length kr kr kr (by omega) (sd_ld 89 (.int .i64 a8) 3 (.pointer (some ⟨2, 0 + j * 1, none⟩)) kr kr kr (ld_cell (l := rd) (e := 3) (ro := false) (k := j) (j := 0) inC_len kr kr kr ha8 rfl) (sd_see 89 (.int .i64 (A : Int)) (see_int (x := a8) kr hA) (sd_run 1 (sd_ix 91 (.pointer (some ⟨4, 0 + A * 3, none⟩)) A c.length kr kr kr (by omega) ?_)))))
     obtain ⟨a9, ha9⟩ : ∃ x_, (outL (c.length : Int) (outL (c.length : Int) (codeL c c.length) (od.take od.length)) (rd.take j))[A]? = some x_ := ⟨_, List.getElem?_eq_getElem (by simp; omega)⟩
     have ua9 := usel_to ha9 (tb_out (rd.take j) (tb_out (od.take od.length) (tb_code c c.length))) (by omega)
     have ta9 := tb_set (n := A) (a := a9) (tb_out (rd.take j) (tb_out (od.take od.length) (tb_code c c.length)))
     refine sd_run 1 (sd_st 3 4 (0 + A * 3 + 2) (.int .i64 (c.length : Int)) (tab ivC ((outL (c.length : Int) (outL (c.length : Int) (codeL c c.length) (od.take od.length)) (rd.take j)).set A (a9.1, a9.2.1, (c.length : Int)))) (cells := tab ivC (outL (c.length : Int) (outL (c.length : Int) (codeL c c.length) (od.take od.length)) (rd.take j))) (e := 53) kr kr kr kr (st_cell (k := A) (j := 2) (a' := (a9.1, a9.2.1, (c.length : Int))) ivC_len kr kr ha9 kr rfl) (sd_run 6 (sd_see 79 (.int .i64 ((j + 1 : Nat) : Int)) (see_int (x := (IntKind.i64.wrap ((j : Int) + 1))) kr (w64 (by omega) (by omega) (by omega))) (sd_run 2 ?_))))
     refine sd_inv R4_ kr (hR4_ _ (rd.length - (j + 1)) _ (emOf [some 0, some 1, some 2, none, some 4, some 5, some 6]) (by omega) ⟨j + 1, rfl, (by omega), rfl⟩ ⟨sub_of kr kr ⟨iiC_b, inC_b, inC_b, bk_flat (tab ivC ((outL (c.length : Int) (outL (c.length : Int) (codeL c c.length) (od.take od.length)) (rd.take j)).set A (a9.1, a9.2.1, (c.length : Int)))) kr (tab_plain ivC_pl _) (congrArg (tab ivC) (by rw [outL_succ ha8, hA, useI_nat, ← ua9])), brn, brn, ⟨⟩⟩, te_of kr kr⟩ kr)
    ·skip
     obtain rfl : j = rd.length := by omega
     refine sd_run 7 (sdF 77 ((rd.length : Int) < (rd.length : Int)) (by omega) kr (sd_run 39 ?_))
     rcases hR.fl_ with hfl | hfl
     ·skip
      subst hfl
      rcases hR.tg_ with htg | htg
      ·skip
       subst htg
       refine sd_run 34 (sd_run 34 (sd_run 42 ?_))
       refine sdZ (.slice (some ⟨4, 0, none⟩) c.length (unk + 3)) hX (.slice (some ⟨3, 0, none⟩) c.length (unk + 3)) [(iiCo c false), (inCo od false), (inCo rd false), some ⟨(tab ivC (ofL c od rd (-1) (-1))), 53, false⟩] [some 0, some 1, some 2, some 4] ⟨iiC_b, inC_b, inC_b, bk_flat (tab ivC (outL (c.length : Int) (outL (c.length : Int) (codeL c c.length) (od.take od.length)) (rd.take rd.length))) kr (tab_plain ivC_pl _) (congrArg (tab ivC) (by unfold ofL; simp only [List.take_length, useI_nat, useI_no (show (-1 : Int) < 0 by decide)])), ⟨⟩⟩ ⟨rfl, rfl⟩
      ·skip
       obtain ⟨qtg1, qtg2⟩ := valB_iff.1 htg
       obtain ⟨TG, rfl⟩ := Int.eq_ofNat_of_zero_le qtg1
       refine sd_run 34 (sd_run 22 (sdT 84 ((TG : Int) ≥ 0) (by omega) kr (sd_run 10 (sd_ix 91 (.pointer (some ⟨4, 0 + TG * 3, none⟩)) TG c.length kr kr kr (by omega) ?_))))
       obtain ⟨a10, ha10⟩ : ∃ x_, (outL (c.length : Int) (outL (c.length : Int) (codeL c c.length) (od.take od.length)) (rd.take rd.length))[TG]? = some x_ := ⟨_, List.getElem?_eq_getElem (by simp; omega)⟩
       have ua10 := usel_to ha10 (tb_out (rd.take rd.length) (tb_out (od.take od.length) (tb_code c c.length))) (by omega)
       have ta10 := tb_set (n := TG) (a := a10) (tb_out (rd.take rd.length) (tb_out (od.take od.length) (tb_code c c.length)))
       refine sd_run 1 (sd_st 3 4 (0 + TG * 3 + 2) (.int .i64 (c.length : Int)) (tab ivC ((outL (c.length : Int) (outL (c.length : Int) (codeL c c.length) (od.take od.length)) (rd.take rd.length)).set TG (a10.1, a10.2.1, (c.length : Int)))) (cells := tab ivC (outL (c.length : Int) (outL (c.length : Int) (codeL c c.length) (od.take od.length)) (rd.take rd.length))) (e := 53) kr kr kr kr (st_cell (k := TG) (j := 2) (a' := (a10.1, a10.2.1, (c.length : Int))) ivC_len kr kr ha10 kr rfl) (sd_run 9 (sd_run 42 ?_)))
       refine sdZ (.slice (some ⟨4, 0, none⟩) c.length (unk + 3)) hX (.slice (some ⟨3, 0, none⟩) c.length (unk + 3)) [(iiCo c false), (inCo od false), (inCo rd false), some ⟨(tab ivC (ofL c od rd (-1) (TG : Int))), 53, false⟩] [some 0, some 1, some 2, some 4] ⟨iiC_b, inC_b, inC_b, bk_flat (tab ivC ((outL (c.length : Int) (outL (c.length : Int) (codeL c c.length) (od.take od.length)) (rd.take rd.length)).set TG (a10.1, a10.2.1, (c.length : Int)))) kr (tab_plain ivC_pl _) (congrArg (tab ivC) (by rw [ua10]; unfold ofL; simp only [List.take_length, useI_nat, useI_no (show (-1 : Int) < 0 by decide)])), ⟨⟩⟩ ⟨rfl, rfl⟩
     ·skip
      obtain ⟨qfl1, qfl2⟩ := valB_iff.1 hfl
      obtain ⟨FL, rfl⟩ := Int.eq_ofNat_of_zero_le qfl1
      rcases hR.tg_ with htg | htg
      ·skip
       subst htg
       refine sd_run 22 (sdT 84 ((FL : Int) ≥ 0) (by omega) kr (sd_run 10 (sd_ix 91 (.pointer (some ⟨4, 0 + FL * 3, none⟩)) FL c.length kr kr kr (by omega) ?_)))
       obtain ⟨a11, ha11⟩ : ∃ x_, (outL (c.length : Int) (outL (c.length : Int) (codeL c c.length) (od.take od.length)) (rd.take rd.length))[FL]? = some x_ := ⟨_, List.getElem?_eq_getElem (by simp; omega)⟩
       have ua11 := usel_to ha11 (tb_out (rd.take rd.length) (tb_out (od.take od.length) (tb_code c c.length))) (by omega)
       have ta11 := tb_set (n := FL) (a := a11) (tb_out (rd.take rd.length) (tb_out (od.take od.length) (tb_code c c.length)))
       refine sd_run 1 (sd_st 3 4 (0 + FL * 3 + 2) (.int .i64 (c.length : Int)) (tab ivC ((outL (c.length : Int) (outL (c.length : Int) (codeL c c.length) (od.take od.length)) (rd.take rd.length)).set FL (a11.1, a11.2.1, (c.length : Int)))) (cells := tab ivC (outL (c.length : Int) (outL (c.length : Int) (codeL c c.length) (od.take od.length)) (rd.take rd.length))) (e := 53) kr kr kr kr (st_cell (k := FL) (j := 2) (a' := (a11.1, a11.2.1, (c.length : Int))) ivC_len kr kr ha11 kr rfl) (sd_run 9 (sd_run 34 (sd_run 42 ?_))))
       refine sdZ (.slice (some ⟨4, 0, none⟩) c.length (unk + 3)) hX (.slice (some ⟨3, 0, none⟩) c.length (unk + 3)) [(iiCo c false), (inCo od false), (inCo rd false), some ⟨(tab ivC (ofL c od rd (FL : Int) (-1))), 53, false⟩] [some 0, some 1, some 2, some 4] ⟨iiC_b, inC_b, inC_b, bk_flat (tab ivC ((outL (c.length : Int) (outL (c.length : Int) (codeL c c.length) (od.take od.length)) (rd.take rd.length)).set FL (a11.1, a11.2.1, (c.length : Int)))) kr (tab_plain ivC_pl _) (congrArg (tab ivC) (by rw [ua11]; unfold ofL; simp only [List.take_length, useI_nat, useI_no (show (-1 : Int) < 0 by decide)])), ⟨⟩⟩ ⟨rfl, rfl⟩
      ·skip
       obtain ⟨qtg1, qtg2⟩ := valB_iff.1 htg
       obtain ⟨TG, rfl⟩ := Int.eq_ofNat_of_zero_le qtg1
       refine sd_run 22 (sdT 84 ((FL : Int) ≥ 0) (by omega) kr (sd_run 10 (sd_ix 91 (.pointer (some ⟨4, 0 + FL * 3, none⟩)) FL c.length kr kr kr (by omega) ?_)))
       obtain ⟨a12, ha12⟩ : ∃ x_, (outL (c.length : Int) (outL (c.length : Int) (codeL c c.length) (od.take od.length)) (rd.take rd.length))[FL]? = some x_ := ⟨_, List.getElem?_eq_getElem (by simp; omega)⟩
       have ua12 := usel_to ha12 (tb_out (rd.take rd.length) (tb_out (od.take od.length) (tb_code c c.length))) (by omega)
       have ta12 := tb_set (n := FL) (a := a12) (tb_out (rd.take rd.length) (tb_out (od.take od.length) (tb_code c c.length)))
       refine sd_run 1 (sd_st 3 4 (0 + FL * 3 + 2) (.int .i64 (c.length : Int)) (tab ivC ((outL (c.length : Int) (outL (c.length : Int) (codeL c c.length) (od.take od.length)) (rd.take rd.length)).set FL (a12.1, a12.2.1, (c.length : Int)))) (cells := tab ivC (outL (c.length : Int) (outL (c.length : Int) (codeL c c.length) (od.take od.length)) (rd.take rd.length))) (e := 53) kr kr kr kr (st_cell (k := FL) (j := 2) (a' := (a12.1, a12.2.1, (c.length : Int))) ivC_len kr kr ha12 kr rfl) (sd_run 9 (sd_run 22 (sdT 84 ((TG : Int) ≥ 0) (by omega) kr (sd_run 10 (sd_ix 91 (.pointer (some ⟨4, 0 + TG * 3, none⟩)) TG c.length kr kr kr (by omega) ?_))))))
       obtain ⟨a13, ha13⟩ : ∃ x_, ((outL (c.length : Int) (outL (c.length : Int) (codeL c c.length) (od.take od.length)) (rd.take rd.length)).set FL (a12.1, a12.2.1, (c.length : Int)))[TG]? = some x_ := ⟨_, List.getElem?_eq_getElem (by simp; omega)⟩
       have ua13 := usel_to ha13 ta12 (by omega)
       have ta13 := tb_set (n := TG) (a := a13) ta12
       refine sd_run 1 (sd_st 3 4 (0 + TG * 3 + 2) (.int .i64 (c.length : Int)) (tab ivC (((outL (c.length : Int) (outL (c.length : Int) (codeL c c.length) (od.take od.length)) (rd.take rd.length)).set FL (a12.1, a12.2.1, (c.length : Int))).set TG (a13.1, a13.2.1, (c.length : Int)))) (cells := tab ivC ((outL (c.length : Int) (outL (c.length : Int) (codeL c c.length) (od.take od.length)) (rd.take rd.length)).set FL (a12.1, a12.2.1, (c.length : Int)))) (e := 53) kr kr kr kr (st_cell (k := TG) (j := 2) (a' := (a13.1, a13.2.1, (c.length : Int))) ivC_len kr kr ha13 kr rfl) (sd_run 9 (sd_run 42 ?_)))
       refine sdZ (.slice (some ⟨4, 0, none⟩) c.length (unk + 3)) hX (.slice (some ⟨3, 0, none⟩) c.length (unk + 3)) [(iiCo c false), (inCo od false), (inCo rd false), some ⟨(tab ivC (ofL c od rd (FL : Int) (TG : Int))), 53, false⟩] [some 0, some 1, some 2, some 4] ⟨iiC_b, inC_b, inC_b, bk_flat (tab ivC (((outL (c.length : Int) (outL (c.length : Int) (codeL c c.length) (od.take od.length)) (rd.take rd.length)).set FL (a12.1, a12.2.1, (c.length : Int))).set TG (a13.1, a13.2.1, (c.length : Int)))) kr (tab_plain ivC_pl _) (congrArg (tab ivC) (by rw [ua13]; rw [ua12]; unfold ofL; simp only [List.take_length, useI_nat, useI_no (show (-1 : Int) < 0 by decide)])), ⟨⟩⟩ ⟨rfl, rfl⟩
end Ls
end Go.Proofs.Ytegjicaoemhhlaa
