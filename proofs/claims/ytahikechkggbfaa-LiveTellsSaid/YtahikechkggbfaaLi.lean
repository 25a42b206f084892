/- Chapter 20: how many press, the plain way. -/
import Derived.Test.YtahikechkggbfaaLh
namespace Go.Proofs.Ytahikechkggbfaa
open Go Go.Ev Go.RowKit
set_option linter.unusedVariables false
set_option linter.unusedSimpArgs false
set_option maxRecDepth 100000
namespace Lm
theorem rmost_take {l : List IV} {k : Nat} {i : IV} (h : l[k]? = some i) : rmost l (l.take (k + 1)) = max (max (rmost l (l.take k)) (cnt l i.2.1)) (cnt l i.2.2) := by rw [take_snoc h, rmost_snoc]
theorem rpress_run {H : Heap} {l : List IV} {pt : Option Addr} {cap lo : Nat} (hlen : l.length ≤ 1000) (hg : Gr H lo 41 3 (.slice pt l.length cap) l.length (ivs l)) : ACall Try.prog T2 16 #[(.slice pt l.length cap)] H fun r H' => r = .int .i64 (rmost l l) ∧ Up H.n H H' := by
  refine acall_cf 79 (initTm 0 #[(.slice pt l.length cap)]) rfl f16_fn f16_body rfl rfl ?_
  refine cf_go 17 ?_
  refine cf_loop 79 (cl (cl (cr (cl (cr (cr f16b)))))) [.blk 0, .next (cr (cr (cr f16b)))] (by kernel_rfl) (by kernel_rfl) (by kernel_rfl) (fun m9 s9 => ∃ (k : Nat) (H1 : Heap), m9 = l.length - k ∧ k ≤ l.length ∧ Up H.n H H1 ∧ Kn s9.tm [(0, (.slice pt l.length cap)), (2, .int .i64 0), (3, .int .i64 (rmost l (l.take k))), (4, .int .i64 ((k : Nat) : Int))] ∧ s9.H = H1) (l.length) ⟨0, H, by omega, by omega, (Up.refl H : Up H.n H H), ⟨(by kernel_rfl), (by kernel_rfl), (by kernel_rfl), (by kernel_rfl), True.intro⟩, (by kernel_rfl)⟩ ?_
  rintro m9 s9 ⟨k, H1, hm, hk, uH1, hkn, hH⟩ Rr1 hRr1
  refine cf_kn [(0, (.slice pt l.length cap)), (2, .int .i64 0), (3, .int .i64 (rmost l (l.take k))), (4, .int .i64 ((k : Nat) : Int))] hkn hH fun tm => ?_
  have nH1 := uH1.n
  by_cases hlt : k < l.length
  · skip
    obtain ⟨i, hi⟩ : ∃ i, l[k]? = some i := ⟨_, List.getElem?_eq_getElem hlt⟩
    rcases hg.at_ with ⟨_, h0⟩ | ⟨B0, heB, gB0, hB0, _⟩
    · omega
    obtain ⟨rfl, rfl⟩ : pt = some ⟨B0, 0, none⟩ ∧ cap = unk + 3 := by injection heB with e1 _ e3; exact ⟨e1, e3⟩
    refine cf_go 7 ?_
    refine cf_see 12 (.bool true) (see_bool (by kernel_rfl) ((decide_eq_true (by omega)) : ((decide (((k : Nat) : Int) < ((l.length : Nat) : Int)))) = true)) ?_
    refine cf_go 11 ?_
    refine cf_val 17 (.pointer (some ⟨B0, 0 + k * 3, none⟩)) H1 (by kernel_rfl) ((by kernel_rfl : _ = val (bif (k : Nat).blt l.length then some (.pointer (some ⟨B0, 0 + k * 3, none⟩)) else none) H1).trans (by rw [show (k : Nat).blt l.length = true from (by rw [blt_dec]; simp only [decide_eq_true_eq]; omega)]; rfl)) ?_
    refine cf_go 1 ?_
    have gH1B0 : H1.get (B0) = some ⟨(ivs l), 41, false⟩ := by rw [uH1.get _ (by omega)]; exact gB0
    refine cf_val 19 (.int .i64 i.2.1) H1 (by kernel_rfl) ((by kernel_rfl : _ = val (aload T2 3 (.pointer (some ⟨B0, 0 + k * 3 + 1, none⟩)) H1) H1).trans (val_of ((aload_at gH1B0).trans (aloadC_cellB (n := 1) (by kernel_rfl) (by kernel_rfl) (ivs_cell _ _ _ 1 hi (by decide)))))) ?_
    refine cf_go 2 ?_
    refine cf_val 22 (.pointer (some ⟨B0, 0 + k * 3, none⟩)) H1 (by kernel_rfl) ((by kernel_rfl : _ = val (bif (k : Nat).blt l.length then some (.pointer (some ⟨B0, 0 + k * 3, none⟩)) else none) H1).trans (by rw [show (k : Nat).blt l.length = true from (by rw [blt_dec]; simp only [decide_eq_true_eq]; omega)]; rfl)) ?_
    refine cf_go 1 ?_
    refine cf_val 24 (.int .i64 i.2.2) H1 (by kernel_rfl) ((by kernel_rfl : _ = val (aload T2 3 (.pointer (some ⟨B0, 0 + k * 3 + 2, none⟩)) H1) H1).trans (val_of ((aload_at gH1B0).trans (aloadC_cellB (n := 1) (by kernel_rfl) (by kernel_rfl) (ivs_cell _ _ _ 2 hi (by decide)))))) ?_
    obtain ⟨H1_, hH1_⟩ : ∃ x : Heap, x = H1.push ⟨[Value.int .i64 i.2.1, .int .i64 i.2.2], 3, false⟩ := ⟨_, rfl⟩
    have nH1_ : H1_.n = H1.n + 1 := by rw [hH1_]; rfl
    refine cf_val 25 (.slice (some ⟨H1.n, 0, none⟩) 2 2) H1_ (by kernel_rfl) ((by kernel_rfl : _ = some (Res.val (.slice (some ⟨H1.n, 0, none⟩) 2 2), H1.push ⟨[Value.int .i64 i.2.1, .int .i64 i.2.2], 3, false⟩)).trans (by rw [← hH1_])) ?_
    refine cf_go 20 ?_
    have gH1_H1_n : H1_.get (H1.n) = some ⟨[Value.int .i64 i.2.1, .int .i64 i.2.2], 3, false⟩ := by rw [hH1_]; exact (Heap.get_push _ _ _).trans (if_pos rfl)
    refine cf_val 30 (.int .i64 i.2.1) H1_ (by kernel_rfl) ((by kernel_rfl : _ = val (aload T2 3 (.pointer (some ⟨H1.n, 0, none⟩)) H1_) H1_).trans (val_of ((aload_at gH1_H1_n).trans (by kernel_rfl)))) ?_
    refine cf_go 15 ?_
    obtain ⟨Ya, hYa⟩ : ∃ D, D = H1.n := ⟨_, rfl⟩
    rw [← hYa] at gH1_H1_n
    refine cf_loop 79 (cl (cl (cr (cl (cr (cr (cl (cl (cr (cr (cl (cl (cr (cl (cl (cr (cl (cl (cr (cl (cr (cr f16b)))))))))))))))))))))) [.blk 4, .next (cr (cr (cr (cl (cl (cr (cr (cl (cl (cr (cl (cl (cr (cl (cl (cr (cl (cr (cr f16b))))))))))))))))))), .blk 3, .next (cr (cr (cr (cl (cl (cr (cl (cl (cr (cl (cl (cr (cl (cr (cr f16b))))))))))))))), .loop (cl (cl (cr (cl (cl (cr (cl (cl (cr (cl (cr (cr f16b)))))))))))), .blk 2, .blk 1, .next (cr (cr (cl (cl (cr (cl (cr (cr f16b)))))))), .inv Rr1, .blk 0, .next (cr (cr (cr f16b)))] (by kernel_rfl) (by kernel_rfl) (by kernel_rfl) (fun m9 s9 => ∃ (ja : Nat) (H2a : Heap), m9 = l.length - ja ∧ ja ≤ l.length ∧ H2a.get Ya = some ⟨[Value.int .i64 i.2.1, .int .i64 i.2.2], 3, false⟩ ∧ H.n ≤ Ya ∧ Ya < H2a.n ∧ Up H.n H H2a ∧ Kn s9.tm [(0, .slice (some ⟨B0, 0, none⟩) l.length (unk + 3)), (2, .int .i64 0), (3, .int .i64 (rmost l (l.take k))), (4, .int .i64 ((k : Nat) : Int)), (25, .slice (some ⟨Ya, 0, none⟩) 2 2), (26, .int .i64 2), (27, .int .i64 0), (6, .int .i64 i.2.1), (7, .int .i64 (cnt (l.take ja) i.2.1)), (8, .int .i64 ((ja : Nat) : Int))] ∧ s9.H = H2a) (l.length) ⟨0, H1_, by omega, by omega, gH1_H1_n, by omega, by omega, (show Up H.n H H1_ from ⟨by omega, fun b hb => by rw [hH1_, Heap.get_push, if_neg (by omega), uH1.get _ (by omega)]⟩), ⟨(by kernel_rfl), (by kernel_rfl), (by kernel_rfl), (by kernel_rfl), (by rw [hYa]; kernel_rfl), (by kernel_rfl), (by kernel_rfl), (by kernel_rfl), (by kernel_rfl), (by kernel_rfl), True.intro⟩, (by kernel_rfl)⟩ ?_
    rintro m9 s9 ⟨ja, H2a, hm2, hj, gYa, bX1, bX2, uH2a, hkn, hH⟩ Rr2 hRr2
    refine cf_kn [(0, .slice (some ⟨B0, 0, none⟩) l.length (unk + 3)), (2, .int .i64 0), (3, .int .i64 (rmost l (l.take k))), (4, .int .i64 ((k : Nat) : Int)), (25, .slice (some ⟨Ya, 0, none⟩) 2 2), (26, .int .i64 2), (27, .int .i64 0), (6, .int .i64 i.2.1), (7, .int .i64 (cnt (l.take ja) i.2.1)), (8, .int .i64 ((ja : Nat) : Int))] hkn hH fun tm => ?_
    have nH2a := uH2a.n
    have hcb := cnt_bnd l ja i.2.1 hlen
    by_cases hlt2 : ja < l.length
    · skip
      obtain ⟨b, hb⟩ : ∃ i, l[ja]? = some i := ⟨_, List.getElem?_eq_getElem hlt2⟩
      refine cf_go 7 ?_
      refine cf_see 34 (.bool true) (see_bool (by kernel_rfl) ((decide_eq_true (by omega)) : ((decide (((ja : Nat) : Int) < ((l.length : Nat) : Int)))) = true)) ?_
      refine cf_go 11 ?_
      refine cf_val 39 (.pointer (some ⟨B0, 0 + ja * 3, none⟩)) H2a (by kernel_rfl) ((by kernel_rfl : _ = val (bif (ja : Nat).blt l.length then some (.pointer (some ⟨B0, 0 + ja * 3, none⟩)) else none) H2a).trans (by rw [show (ja : Nat).blt l.length = true from (by rw [blt_dec]; simp only [decide_eq_true_eq]; omega)]; rfl)) ?_
      refine cf_go 1 ?_
      have gH2aB0 : H2a.get (B0) = some ⟨(ivs l), 41, false⟩ := by rw [uH2a.get _ (by omega)]; exact gB0
      refine cf_val 41 (.int .i64 b.2.1) H2a (by kernel_rfl) ((by kernel_rfl : _ = val (aload T2 3 (.pointer (some ⟨B0, 0 + ja * 3 + 1, none⟩)) H2a) H2a).trans (val_of ((aload_at gH2aB0).trans (aloadC_cellB (n := 1) (by kernel_rfl) (by kernel_rfl) (ivs_cell _ _ _ 1 hb (by decide)))))) ?_
      refine cf_go 3 ?_
      rcases Bool.eq_false_or_eq_true ((decide ((b.2.1 : Int) ≤ i.2.1))) with hc1 | hc1
      · skip
        refine cf_see 44 (.bool true) (see_bool (by kernel_rfl) hc1) ?_
        refine cf_go 2 ?_
        refine cf_val 47 (.pointer (some ⟨B0, 0 + ja * 3, none⟩)) H2a (by kernel_rfl) ((by kernel_rfl : _ = val (bif (ja : Nat).blt l.length then some (.pointer (some ⟨B0, 0 + ja * 3, none⟩)) else none) H2a).trans (by rw [show (ja : Nat).blt l.length = true from (by rw [blt_dec]; simp only [decide_eq_true_eq]; omega)]; rfl)) ?_
        refine cf_go 1 ?_
        refine cf_val 49 (.int .i64 b.2.2) H2a (by kernel_rfl) ((by kernel_rfl : _ = val (aload T2 3 (.pointer (some ⟨B0, 0 + ja * 3 + 2, none⟩)) H2a) H2a).trans (val_of ((aload_at gH2aB0).trans (aloadC_cellB (n := 1) (by kernel_rfl) (by kernel_rfl) (ivs_cell _ _ _ 2 hb (by decide)))))) ?_
        refine cf_go 4 ?_
        rcases Bool.eq_false_or_eq_true ((decide ((b.2.2 : Int) > i.2.1))) with hc2 | hc2
        · skip
          refine cf_see 53 (.bool true) (see_bool (by kernel_rfl) hc2) ?_
          have hat : atB b.2.1 b.2.2 i.2.1 = true := by rw [atB_iff]; simp only [decide_eq_true_eq, decide_eq_false_iff_not, beq_iff_eq, beq_eq_false_iff_ne, Bool.not_eq_true, ne_eq] at hc1 hc2; omega
          refine cf_go 23 ?_
          refine cf_see 72 (.int .i64 (cnt (l.take (ja + 1)) i.2.1)) (see_int (x := (IntKind.i64.wrap ((cnt (l.take ja) i.2.1) + 1))) (by kernel_rfl) (w64 (by rw [cnt_take hb, hat]; rfl) (by have := cnt_bnd l (ja + 1) i.2.1 hlen; omega) (by have := cnt_bnd l (ja + 1) i.2.1 hlen; omega))) ?_
          refine cf_go 7 ?_
          refine cf_see 36 (.int .i64 ((ja + 1 : Nat) : Int)) (see_int (x := (IntKind.i64.wrap (((ja : Nat) : Int) + 1))) (by kernel_rfl) (w64 (by omega) (by omega) (by omega))) ?_
          refine cf_go 2 ?_
          refine cf_inv Rr2 (by kernel_rfl) (hRr2 _ ⟨l.length - (ja + 1), by omega, ja + 1, H2a, rfl, by omega, gYa, by omega, by omega, (show Up H.n H H2a from ⟨by omega, fun b hb => by rw [uH2a.get _ (by omega)]⟩), ⟨(by kernel_rfl), (by kernel_rfl), (by kernel_rfl), (by kernel_rfl), (by kernel_rfl), (by kernel_rfl), (by kernel_rfl), (by kernel_rfl), (by kernel_rfl), (by kernel_rfl), True.intro⟩, (by kernel_rfl)⟩)
        · skip
          refine cf_see 53 (.bool false) (see_bool (by kernel_rfl) hc2) ?_
          refine cf_go 2 ?_
          refine cf_val 56 (.pointer (some ⟨B0, 0 + ja * 3, none⟩)) H2a (by kernel_rfl) ((by kernel_rfl : _ = val (bif (ja : Nat).blt l.length then some (.pointer (some ⟨B0, 0 + ja * 3, none⟩)) else none) H2a).trans (by rw [show (ja : Nat).blt l.length = true from (by rw [blt_dec]; simp only [decide_eq_true_eq]; omega)]; rfl)) ?_
          refine cf_go 1 ?_
          refine cf_val 58 (.int .i64 b.2.1) H2a (by kernel_rfl) ((by kernel_rfl : _ = val (aload T2 3 (.pointer (some ⟨B0, 0 + ja * 3 + 1, none⟩)) H2a) H2a).trans (val_of ((aload_at gH2aB0).trans (aloadC_cellB (n := 1) (by kernel_rfl) (by kernel_rfl) (ivs_cell _ _ _ 1 hb (by decide)))))) ?_
          refine cf_go 3 ?_
          rcases Bool.eq_false_or_eq_true (((b.2.1 : Int) == i.2.1)) with hc3 | hc3
          · skip
            refine cf_see 61 (.bool true) (see_bool (by kernel_rfl) hc3) ?_
            refine cf_go 2 ?_
            refine cf_val 64 (.pointer (some ⟨B0, 0 + ja * 3, none⟩)) H2a (by kernel_rfl) ((by kernel_rfl : _ = val (bif (ja : Nat).blt l.length then some (.pointer (some ⟨B0, 0 + ja * 3, none⟩)) else none) H2a).trans (by rw [show (ja : Nat).blt l.length = true from (by rw [blt_dec]; simp only [decide_eq_true_eq]; omega)]; rfl)) ?_
            refine cf_go 1 ?_
            refine cf_val 66 (.int .i64 b.2.2) H2a (by kernel_rfl) ((by kernel_rfl : _ = val (aload T2 3 (.pointer (some ⟨B0, 0 + ja * 3 + 2, none⟩)) H2a) H2a).trans (val_of ((aload_at gH2aB0).trans (aloadC_cellB (n := 1) (by kernel_rfl) (by kernel_rfl) (ivs_cell _ _ _ 2 hb (by decide)))))) ?_
            refine cf_go 6 ?_
            rcases Bool.eq_false_or_eq_true (((b.2.2 : Int) == i.2.1)) with hc4 | hc4
            · skip
              refine cf_see 70 (.bool true) (see_bool (by kernel_rfl) hc4) ?_
              have hat : atB b.2.1 b.2.2 i.2.1 = true := by rw [atB_iff]; simp only [decide_eq_true_eq, decide_eq_false_iff_not, beq_iff_eq, beq_eq_false_iff_ne, Bool.not_eq_true, ne_eq] at hc1 hc2 hc3 hc4; omega
              refine cf_go 4 ?_
              refine cf_see 72 (.int .i64 (cnt (l.take (ja + 1)) i.2.1)) (see_int (x := (IntKind.i64.wrap ((cnt (l.take ja) i.2.1) + 1))) (by kernel_rfl) (w64 (by rw [cnt_take hb, hat]; rfl) (by have := cnt_bnd l (ja + 1) i.2.1 hlen; omega) (by have := cnt_bnd l (ja + 1) i.2.1 hlen; omega))) ?_
              refine cf_go 7 ?_
              refine cf_see 36 (.int .i64 ((ja + 1 : Nat) : Int)) (see_int (x := (IntKind.i64.wrap (((ja : Nat) : Int) + 1))) (by kernel_rfl) (w64 (by omega) (by omega) (by omega))) ?_
              refine cf_go 2 ?_
              refine cf_inv Rr2 (by kernel_rfl) (hRr2 _ ⟨l.length - (ja + 1), by omega, ja + 1, H2a, rfl, by omega, gYa, by omega, by omega, (show Up H.n H H2a from ⟨by omega, fun b hb => by rw [uH2a.get _ (by omega)]⟩), ⟨(by kernel_rfl), (by kernel_rfl), (by kernel_rfl), (by kernel_rfl), (by kernel_rfl), (by kernel_rfl), (by kernel_rfl), (by kernel_rfl), (by kernel_rfl), (by kernel_rfl), True.intro⟩, (by kernel_rfl)⟩)
            · skip
              refine cf_see 70 (.bool false) (see_bool (by kernel_rfl) hc4) ?_
              refine cf_go 7 ?_
              refine cf_see 36 (.int .i64 ((ja + 1 : Nat) : Int)) (see_int (x := (IntKind.i64.wrap (((ja : Nat) : Int) + 1))) (by kernel_rfl) (w64 (by omega) (by omega) (by omega))) ?_
              refine cf_go 2 ?_
              have hat : atB b.2.1 b.2.2 i.2.1 = false := by refine Bool.eq_false_iff.2 fun h9 => ?_; rw [atB_iff] at h9; simp only [decide_eq_true_eq, decide_eq_false_iff_not, beq_iff_eq, beq_eq_false_iff_ne, Bool.not_eq_true, ne_eq] at hc1 hc2 hc3 hc4; omega
              have hcs : cnt (l.take (ja + 1)) i.2.1 = cnt (l.take ja) i.2.1 := by rw [cnt_take hb, hat]; simp
              refine cf_inv Rr2 (by kernel_rfl) (hRr2 _ ⟨l.length - (ja + 1), by omega, ja + 1, H2a, rfl, by omega, gYa, by omega, by omega, (show Up H.n H H2a from ⟨by omega, fun b hb => by rw [uH2a.get _ (by omega)]⟩), ⟨(by kernel_rfl), (by kernel_rfl), (by kernel_rfl), (by kernel_rfl), (by kernel_rfl), (by kernel_rfl), (by kernel_rfl), (by kernel_rfl), (by rw [hcs]; kernel_rfl), (by kernel_rfl), True.intro⟩, (by kernel_rfl)⟩)
          · skip
            refine cf_see 61 (.bool false) (see_bool (by kernel_rfl) hc3) ?_
            refine cf_go 18 ?_
            refine cf_see 36 (.int .i64 ((ja + 1 : Nat) : Int)) (see_int (x := (IntKind.i64.wrap (((ja : Nat) : Int) + 1))) (by kernel_rfl) (w64 (by omega) (by omega) (by omega))) ?_
            refine cf_go 2 ?_
            have hat : atB b.2.1 b.2.2 i.2.1 = false := by refine Bool.eq_false_iff.2 fun h9 => ?_; rw [atB_iff] at h9; simp only [decide_eq_true_eq, decide_eq_false_iff_not, beq_iff_eq, beq_eq_false_iff_ne, Bool.not_eq_true, ne_eq] at hc1 hc2 hc3; omega
            have hcs : cnt (l.take (ja + 1)) i.2.1 = cnt (l.take ja) i.2.1 := by rw [cnt_take hb, hat]; simp
            refine cf_inv Rr2 (by kernel_rfl) (hRr2 _ ⟨l.length - (ja + 1), by omega, ja + 1, H2a, rfl, by omega, gYa, by omega, by omega, (show Up H.n H H2a from ⟨by omega, fun b hb => by rw [uH2a.get _ (by omega)]⟩), ⟨(by kernel_rfl), (by kernel_rfl), (by kernel_rfl), (by kernel_rfl), (by kernel_rfl), (by kernel_rfl), (by kernel_rfl), (by kernel_rfl), (by rw [hcs]; kernel_rfl), (by kernel_rfl), True.intro⟩, (by kernel_rfl)⟩)
      · skip
        refine cf_see 44 (.bool false) (see_bool (by kernel_rfl) hc1) ?_
        refine cf_go 11 ?_
        refine cf_val 56 (.pointer (some ⟨B0, 0 + ja * 3, none⟩)) H2a (by kernel_rfl) ((by kernel_rfl : _ = val (bif (ja : Nat).blt l.length then some (.pointer (some ⟨B0, 0 + ja * 3, none⟩)) else none) H2a).trans (by rw [show (ja : Nat).blt l.length = true from (by rw [blt_dec]; simp only [decide_eq_true_eq]; omega)]; rfl)) ?_
        refine cf_go 1 ?_
        refine cf_val 58 (.int .i64 b.2.1) H2a (by kernel_rfl) ((by kernel_rfl : _ = val (aload T2 3 (.pointer (some ⟨B0, 0 + ja * 3 + 1, none⟩)) H2a) H2a).trans (val_of ((aload_at gH2aB0).trans (aloadC_cellB (n := 1) (by kernel_rfl) (by kernel_rfl) (ivs_cell _ _ _ 1 hb (by decide)))))) ?_
        refine cf_go 3 ?_
        rcases Bool.eq_false_or_eq_true (((b.2.1 : Int) == i.2.1)) with hc5 | hc5
        · skip
          refine cf_see 61 (.bool true) (see_bool (by kernel_rfl) hc5) ?_
          refine cf_go 2 ?_
          refine cf_val 64 (.pointer (some ⟨B0, 0 + ja * 3, none⟩)) H2a (by kernel_rfl) ((by kernel_rfl : _ = val (bif (ja : Nat).blt l.length then some (.pointer (some ⟨B0, 0 + ja * 3, none⟩)) else none) H2a).trans (by rw [show (ja : Nat).blt l.length = true from (by rw [blt_dec]; simp only [decide_eq_true_eq]; omega)]; rfl)) ?_
          refine cf_go 1 ?_
          refine cf_val 66 (.int .i64 b.2.2) H2a (by kernel_rfl) ((by kernel_rfl : _ = val (aload T2 3 (.pointer (some ⟨B0, 0 + ja * 3 + 2, none⟩)) H2a) H2a).trans (val_of ((aload_at gH2aB0).trans (aloadC_cellB (n := 1) (by kernel_rfl) (by kernel_rfl) (ivs_cell _ _ _ 2 hb (by decide)))))) ?_
          refine cf_go 6 ?_
          rcases Bool.eq_false_or_eq_true (((b.2.2 : Int) == i.2.1)) with hc6 | hc6
          · skip
            refine cf_see 70 (.bool true) (see_bool (by kernel_rfl) hc6) ?_
            have hat : atB b.2.1 b.2.2 i.2.1 = true := by rw [atB_iff]; simp only [decide_eq_true_eq, decide_eq_false_iff_not, beq_iff_eq, beq_eq_false_iff_ne, Bool.not_eq_true, ne_eq] at hc1 hc5 hc6; omega
            refine cf_go 4 ?_
            refine cf_see 72 (.int .i64 (cnt (l.take (ja + 1)) i.2.1)) (see_int (x := (IntKind.i64.wrap ((cnt (l.take ja) i.2.1) + 1))) (by kernel_rfl) (w64 (by rw [cnt_take hb, hat]; rfl) (by have := cnt_bnd l (ja + 1) i.2.1 hlen; omega) (by have := cnt_bnd l (ja + 1) i.2.1 hlen; omega))) ?_
            refine cf_go 7 ?_
            refine cf_see 36 (.int .i64 ((ja + 1 : Nat) : Int)) (see_int (x := (IntKind.i64.wrap (((ja : Nat) : Int) + 1))) (by kernel_rfl) (w64 (by omega) (by omega) (by omega))) ?_
            refine cf_go 2 ?_
            refine cf_inv Rr2 (by kernel_rfl) (hRr2 _ ⟨l.length - (ja + 1), by omega, ja + 1, H2a, rfl, by omega, gYa, by omega, by omega, (show Up H.n H H2a from ⟨by omega, fun b hb => by rw [uH2a.get _ (by omega)]⟩), ⟨(by kernel_rfl), (by kernel_rfl), (by kernel_rfl), (by kernel_rfl), (by kernel_rfl), (by kernel_rfl), (by kernel_rfl), (by kernel_rfl), (by kernel_rfl), (by kernel_rfl), True.intro⟩, (by kernel_rfl)⟩)
          · skip
            refine cf_see 70 (.bool false) (see_bool (by kernel_rfl) hc6) ?_
            refine cf_go 7 ?_
            refine cf_see 36 (.int .i64 ((ja + 1 : Nat) : Int)) (see_int (x := (IntKind.i64.wrap (((ja : Nat) : Int) + 1))) (by kernel_rfl) (w64 (by omega) (by omega) (by omega))) ?_
            refine cf_go 2 ?_
            have hat : atB b.2.1 b.2.2 i.2.1 = false := by refine Bool.eq_false_iff.2 fun h9 => ?_; rw [atB_iff] at h9; simp only [decide_eq_true_eq, decide_eq_false_iff_not, beq_iff_eq, beq_eq_false_iff_ne, Bool.not_eq_true, ne_eq] at hc1 hc5 hc6; omega
            have hcs : cnt (l.take (ja + 1)) i.2.1 = cnt (l.take ja) i.2.1 := by rw [cnt_take hb, hat]; simp
            refine cf_inv Rr2 (by kernel_rfl) (hRr2 _ ⟨l.length - (ja + 1), by omega, ja + 1, H2a, rfl, by omega, gYa, by omega, by omega, (show Up H.n H H2a from ⟨by omega, fun b hb => by rw [uH2a.get _ (by omega)]⟩), ⟨(by kernel_rfl), (by kernel_rfl), (by kernel_rfl), (by kernel_rfl), (by kernel_rfl), (by kernel_rfl), (by kernel_rfl), (by kernel_rfl), (by rw [hcs]; kernel_rfl), (by kernel_rfl), True.intro⟩, (by kernel_rfl)⟩)
        · skip
          refine cf_see 61 (.bool false) (see_bool (by kernel_rfl) hc5) ?_
          refine cf_go 18 ?_
          refine cf_see 36 (.int .i64 ((ja + 1 : Nat) : Int)) (see_int (x := (IntKind.i64.wrap (((ja : Nat) : Int) + 1))) (by kernel_rfl) (w64 (by omega) (by omega) (by omega))) ?_
          refine cf_go 2 ?_
          have hat : atB b.2.1 b.2.2 i.2.1 = false := by refine Bool.eq_false_iff.2 fun h9 => ?_; rw [atB_iff] at h9; simp only [decide_eq_true_eq, decide_eq_false_iff_not, beq_iff_eq, beq_eq_false_iff_ne, Bool.not_eq_true, ne_eq] at hc1 hc5; omega
          have hcs : cnt (l.take (ja + 1)) i.2.1 = cnt (l.take ja) i.2.1 := by rw [cnt_take hb, hat]; simp
          refine cf_inv Rr2 (by kernel_rfl) (hRr2 _ ⟨l.length - (ja + 1), by omega, ja + 1, H2a, rfl, by omega, gYa, by omega, by omega, (show Up H.n H H2a from ⟨by omega, fun b hb => by rw [uH2a.get _ (by omega)]⟩), ⟨(by kernel_rfl), (by kernel_rfl), (by kernel_rfl), (by kernel_rfl), (by kernel_rfl), (by kernel_rfl), (by kernel_rfl), (by kernel_rfl), (by rw [hcs]; kernel_rfl), (by kernel_rfl), True.intro⟩, (by kernel_rfl)⟩)
    · skip
      obtain rfl : ja = l.length := by omega
      have hcla : cnt (l.take l.length) i.2.1 = cnt l i.2.1 := by rw [List.take_length]
      refine cf_see 7 (.int .i64 (cnt l i.2.1)) (see_int (x := (cnt (l.take l.length) i.2.1)) (by kernel_rfl) hcla) ?_
      refine cf_go 7 ?_
      refine cf_see 34 (.bool false) (see_bool (by kernel_rfl) ((decide_eq_false (by omega)) : ((decide (((l.length : Nat) : Int) < ((l.length : Nat) : Int)))) = false)) ?_
      refine cf_go 15 ?_
      rcases Bool.eq_false_or_eq_true ((decide (((cnt l i.2.1) : Int) > (rmost l (l.take k))))) with hc7 | hc7
      · skip
        refine cf_see 75 (.bool true) (see_bool (by kernel_rfl) hc7) ?_
        refine cf_go 27 ?_
        refine cf_val 30 (.int .i64 i.2.2) H2a (by kernel_rfl) ((by kernel_rfl : _ = val (aload T2 3 (.pointer (some ⟨Ya, 1, none⟩)) H2a) H2a).trans (val_of ((aload_at gYa).trans (by kernel_rfl)))) ?_
        refine cf_go 15 ?_
        obtain ⟨Yb, hYb⟩ : ∃ D, D = Ya := ⟨_, rfl⟩
        rw [← hYb] at gYa
        refine cf_loop 79 (cl (cl (cr (cl (cr (cr (cl (cl (cr (cr (cl (cl (cr (cl (cl (cr (cl (cl (cr (cl (cr (cr f16b)))))))))))))))))))))) [.blk 4, .next (cr (cr (cr (cl (cl (cr (cr (cl (cl (cr (cl (cl (cr (cl (cl (cr (cl (cr (cr f16b))))))))))))))))))), .blk 3, .next (cr (cr (cr (cl (cl (cr (cl (cl (cr (cl (cl (cr (cl (cr (cr f16b))))))))))))))), .loop (cl (cl (cr (cl (cl (cr (cl (cl (cr (cl (cr (cr f16b)))))))))))), .blk 2, .blk 1, .next (cr (cr (cl (cl (cr (cl (cr (cr f16b)))))))), .inv Rr1, .blk 0, .next (cr (cr (cr f16b)))] (by kernel_rfl) (by kernel_rfl) (by kernel_rfl) (fun m9 s9 => ∃ (jb : Nat) (H2b : Heap), m9 = l.length - jb ∧ jb ≤ l.length ∧ H2b.get Yb = some ⟨[Value.int .i64 i.2.1, .int .i64 i.2.2], 3, false⟩ ∧ H.n ≤ Yb ∧ Yb < H2b.n ∧ Up H.n H H2b ∧ Kn s9.tm [(0, .slice (some ⟨B0, 0, none⟩) l.length (unk + 3)), (2, .int .i64 0), (3, .int .i64 (cnt l i.2.1)), (4, .int .i64 ((k : Nat) : Int)), (25, .slice (some ⟨Yb, 0, none⟩) 2 2), (26, .int .i64 2), (27, .int .i64 1), (6, .int .i64 i.2.2), (7, .int .i64 (cnt (l.take jb) i.2.2)), (8, .int .i64 ((jb : Nat) : Int))] ∧ s9.H = H2b) (l.length) ⟨0, H2a, by omega, by omega, gYa, by omega, by omega, (show Up H.n H H2a from ⟨by omega, fun b hb => by rw [uH2a.get _ (by omega)]⟩), ⟨(by kernel_rfl), (by kernel_rfl), (by kernel_rfl), (by kernel_rfl), (by rw [hYb]; kernel_rfl), (by kernel_rfl), (by kernel_rfl), (by kernel_rfl), (by kernel_rfl), (by kernel_rfl), True.intro⟩, (by kernel_rfl)⟩ ?_
        rintro m9 s9 ⟨jb, H2b, hm2, hj, gYb, bX1, bX2, uH2b, hkn, hH⟩ Rr3 hRr3
        refine cf_kn [(0, .slice (some ⟨B0, 0, none⟩) l.length (unk + 3)), (2, .int .i64 0), (3, .int .i64 (cnt l i.2.1)), (4, .int .i64 ((k : Nat) : Int)), (25, .slice (some ⟨Yb, 0, none⟩) 2 2), (26, .int .i64 2), (27, .int .i64 1), (6, .int .i64 i.2.2), (7, .int .i64 (cnt (l.take jb) i.2.2)), (8, .int .i64 ((jb : Nat) : Int))] hkn hH fun tm => ?_
        have nH2b := uH2b.n
        have hcb := cnt_bnd l jb i.2.2 hlen
        by_cases hlt2 : jb < l.length
        · skip
          obtain ⟨b, hb⟩ : ∃ i, l[jb]? = some i := ⟨_, List.getElem?_eq_getElem hlt2⟩
          refine cf_go 7 ?_
          refine cf_see 34 (.bool true) (see_bool (by kernel_rfl) ((decide_eq_true (by omega)) : ((decide (((jb : Nat) : Int) < ((l.length : Nat) : Int)))) = true)) ?_
          refine cf_go 11 ?_
          refine cf_val 39 (.pointer (some ⟨B0, 0 + jb * 3, none⟩)) H2b (by kernel_rfl) ((by kernel_rfl : _ = val (bif (jb : Nat).blt l.length then some (.pointer (some ⟨B0, 0 + jb * 3, none⟩)) else none) H2b).trans (by rw [show (jb : Nat).blt l.length = true from (by rw [blt_dec]; simp only [decide_eq_true_eq]; omega)]; rfl)) ?_
          refine cf_go 1 ?_
          have gH2bB0 : H2b.get (B0) = some ⟨(ivs l), 41, false⟩ := by rw [uH2b.get _ (by omega)]; exact gB0
          refine cf_val 41 (.int .i64 b.2.1) H2b (by kernel_rfl) ((by kernel_rfl : _ = val (aload T2 3 (.pointer (some ⟨B0, 0 + jb * 3 + 1, none⟩)) H2b) H2b).trans (val_of ((aload_at gH2bB0).trans (aloadC_cellB (n := 1) (by kernel_rfl) (by kernel_rfl) (ivs_cell _ _ _ 1 hb (by decide)))))) ?_
          refine cf_go 3 ?_
          rcases Bool.eq_false_or_eq_true ((decide ((b.2.1 : Int) ≤ i.2.2))) with hc8 | hc8
          · skip
            refine cf_see 44 (.bool true) (see_bool (by kernel_rfl) hc8) ?_
            refine cf_go 2 ?_
            refine cf_val 47 (.pointer (some ⟨B0, 0 + jb * 3, none⟩)) H2b (by kernel_rfl) ((by kernel_rfl : _ = val (bif (jb : Nat).blt l.length then some (.pointer (some ⟨B0, 0 + jb * 3, none⟩)) else none) H2b).trans (by rw [show (jb : Nat).blt l.length = true from (by rw [blt_dec]; simp only [decide_eq_true_eq]; omega)]; rfl)) ?_
            refine cf_go 1 ?_
            refine cf_val 49 (.int .i64 b.2.2) H2b (by kernel_rfl) ((by kernel_rfl : _ = val (aload T2 3 (.pointer (some ⟨B0, 0 + jb * 3 + 2, none⟩)) H2b) H2b).trans (val_of ((aload_at gH2bB0).trans (aloadC_cellB (n := 1) (by kernel_rfl) (by kernel_rfl) (ivs_cell _ _ _ 2 hb (by decide)))))) ?_
            refine cf_go 4 ?_
            rcases Bool.eq_false_or_eq_true ((decide ((b.2.2 : Int) > i.2.2))) with hc9 | hc9
            · skip
              refine cf_see 53 (.bool true) (see_bool (by kernel_rfl) hc9) ?_
              have hat : atB b.2.1 b.2.2 i.2.2 = true := by rw [atB_iff]; simp only [decide_eq_true_eq, decide_eq_false_iff_not, beq_iff_eq, beq_eq_false_iff_ne, Bool.not_eq_true, ne_eq] at hc8 hc9; omega
              refine cf_go 23 ?_
              refine cf_see 72 (.int .i64 (cnt (l.take (jb + 1)) i.2.2)) (see_int (x := (IntKind.i64.wrap ((cnt (l.take jb) i.2.2) + 1))) (by kernel_rfl) (w64 (by rw [cnt_take hb, hat]; rfl) (by have := cnt_bnd l (jb + 1) i.2.2 hlen; omega) (by have := cnt_bnd l (jb + 1) i.2.2 hlen; omega))) ?_
              refine cf_go 7 ?_
              refine cf_see 36 (.int .i64 ((jb + 1 : Nat) : Int)) (see_int (x := (IntKind.i64.wrap (((jb : Nat) : Int) + 1))) (by kernel_rfl) (w64 (by omega) (by omega) (by omega))) ?_
              refine cf_go 2 ?_
              refine cf_inv Rr3 (by kernel_rfl) (hRr3 _ ⟨l.length - (jb + 1), by omega, jb + 1, H2b, rfl, by omega, gYb, by omega, by omega, (show Up H.n H H2b from ⟨by omega, fun b hb => by rw [uH2b.get _ (by omega)]⟩), ⟨(by kernel_rfl), (by kernel_rfl), (by kernel_rfl), (by kernel_rfl), (by kernel_rfl), (by kernel_rfl), (by kernel_rfl), (by kernel_rfl), (by kernel_rfl), (by kernel_rfl), True.intro⟩, (by kernel_rfl)⟩)
            · skip
              refine cf_see 53 (.bool false) (see_bool (by kernel_rfl) hc9) ?_
              refine cf_go 2 ?_
              refine cf_val 56 (.pointer (some ⟨B0, 0 + jb * 3, none⟩)) H2b (by kernel_rfl) ((by kernel_rfl : _ = val (bif (jb : Nat).blt l.length then some (.pointer (some ⟨B0, 0 + jb * 3, none⟩)) else none) H2b).trans (by rw [show (jb : Nat).blt l.length = true from (by rw [blt_dec]; simp only [decide_eq_true_eq]; omega)]; rfl)) ?_
              refine cf_go 1 ?_
              refine cf_val 58 (.int .i64 b.2.1) H2b (by kernel_rfl) ((by kernel_rfl : _ = val (aload T2 3 (.pointer (some ⟨B0, 0 + jb * 3 + 1, none⟩)) H2b) H2b).trans (val_of ((aload_at gH2bB0).trans (aloadC_cellB (n := 1) (by kernel_rfl) (by kernel_rfl) (ivs_cell _ _ _ 1 hb (by decide)))))) ?_
              refine cf_go 3 ?_
              rcases Bool.eq_false_or_eq_true (((b.2.1 : Int) == i.2.2)) with hc10 | hc10
              · skip
                refine cf_see 61 (.bool true) (see_bool (by kernel_rfl) hc10) ?_
                refine cf_go 2 ?_
                refine cf_val 64 (.pointer (some ⟨B0, 0 + jb * 3, none⟩)) H2b (by kernel_rfl) ((by kernel_rfl : _ = val (bif (jb : Nat).blt l.length then some (.pointer (some ⟨B0, 0 + jb * 3, none⟩)) else none) H2b).trans (by rw [show (jb : Nat).blt l.length = true from (by rw [blt_dec]; simp only [decide_eq_true_eq]; omega)]; rfl)) ?_
                refine cf_go 1 ?_
                refine cf_val 66 (.int .i64 b.2.2) H2b (by kernel_rfl) ((by kernel_rfl : _ = val (aload T2 3 (.pointer (some ⟨B0, 0 + jb * 3 + 2, none⟩)) H2b) H2b).trans (val_of ((aload_at gH2bB0).trans (aloadC_cellB (n := 1) (by kernel_rfl) (by kernel_rfl) (ivs_cell _ _ _ 2 hb (by decide)))))) ?_
                refine cf_go 6 ?_
                rcases Bool.eq_false_or_eq_true (((b.2.2 : Int) == i.2.2)) with hc11 | hc11
                · skip
                  refine cf_see 70 (.bool true) (see_bool (by kernel_rfl) hc11) ?_
                  have hat : atB b.2.1 b.2.2 i.2.2 = true := by rw [atB_iff]; simp only [decide_eq_true_eq, decide_eq_false_iff_not, beq_iff_eq, beq_eq_false_iff_ne, Bool.not_eq_true, ne_eq] at hc8 hc9 hc10 hc11; omega
                  refine cf_go 4 ?_
                  refine cf_see 72 (.int .i64 (cnt (l.take (jb + 1)) i.2.2)) (see_int (x := (IntKind.i64.wrap ((cnt (l.take jb) i.2.2) + 1))) (by kernel_rfl) (w64 (by rw [cnt_take hb, hat]; rfl) (by have := cnt_bnd l (jb + 1) i.2.2 hlen; omega) (by have := cnt_bnd l (jb + 1) i.2.2 hlen; omega))) ?_
                  refine cf_go 7 ?_
                  refine cf_see 36 (.int .i64 ((jb + 1 : Nat) : Int)) (see_int (x := (IntKind.i64.wrap (((jb : Nat) : Int) + 1))) (by kernel_rfl) (w64 (by omega) (by omega) (by omega))) ?_
                  refine cf_go 2 ?_
                  refine cf_inv Rr3 (by kernel_rfl) (hRr3 _ ⟨l.length - (jb + 1), by omega, jb + 1, H2b, rfl, by omega, gYb, by omega, by omega, (show Up H.n H H2b from ⟨by omega, fun b hb => by rw [uH2b.get _ (by omega)]⟩), ⟨(by kernel_rfl), (by kernel_rfl), (by kernel_rfl), (by kernel_rfl), (by kernel_rfl), (by kernel_rfl), (by kernel_rfl), (by kernel_rfl), (by kernel_rfl), (by kernel_rfl), True.intro⟩, (by kernel_rfl)⟩)
                · skip
                  refine cf_see 70 (.bool false) (see_bool (by kernel_rfl) hc11) ?_
                  refine cf_go 7 ?_
                  refine cf_see 36 (.int .i64 ((jb + 1 : Nat) : Int)) (see_int (x := (IntKind.i64.wrap (((jb : Nat) : Int) + 1))) (by kernel_rfl) (w64 (by omega) (by omega) (by omega))) ?_
                  refine cf_go 2 ?_
                  have hat : atB b.2.1 b.2.2 i.2.2 = false := by refine Bool.eq_false_iff.2 fun h9 => ?_; rw [atB_iff] at h9; simp only [decide_eq_true_eq, decide_eq_false_iff_not, beq_iff_eq, beq_eq_false_iff_ne, Bool.not_eq_true, ne_eq] at hc8 hc9 hc10 hc11; omega
                  have hcs : cnt (l.take (jb + 1)) i.2.2 = cnt (l.take jb) i.2.2 := by rw [cnt_take hb, hat]; simp
                  refine cf_inv Rr3 (by kernel_rfl) (hRr3 _ ⟨l.length - (jb + 1), by omega, jb + 1, H2b, rfl, by omega, gYb, by omega, by omega, (show Up H.n H H2b from ⟨by omega, fun b hb => by rw [uH2b.get _ (by omega)]⟩), ⟨(by kernel_rfl), (by kernel_rfl), (by kernel_rfl), (by kernel_rfl), (by kernel_rfl), (by kernel_rfl), (by kernel_rfl), (by kernel_rfl), (by rw [hcs]; kernel_rfl), (by kernel_rfl), True.intro⟩, (by kernel_rfl)⟩)
              · skip
                refine cf_see 61 (.bool false) (see_bool (by kernel_rfl) hc10) ?_
                refine cf_go 18 ?_
                refine cf_see 36 (.int .i64 ((jb + 1 : Nat) : Int)) (see_int (x := (IntKind.i64.wrap (((jb : Nat) : Int) + 1))) (by kernel_rfl) (w64 (by omega) (by omega) (by omega))) ?_
                refine cf_go 2 ?_
                have hat : atB b.2.1 b.2.2 i.2.2 = false := by refine Bool.eq_false_iff.2 fun h9 => ?_; rw [atB_iff] at h9; simp only [decide_eq_true_eq, decide_eq_false_iff_not, beq_iff_eq, beq_eq_false_iff_ne, Bool.not_eq_true, ne_eq] at hc8 hc9 hc10; omega
                have hcs : cnt (l.take (jb + 1)) i.2.2 = cnt (l.take jb) i.2.2 := by rw [cnt_take hb, hat]; simp
                refine cf_inv Rr3 (by kernel_rfl) (hRr3 _ ⟨l.length - (jb + 1), by omega, jb + 1, H2b, rfl, by omega, gYb, by omega, by omega, (show Up H.n H H2b from ⟨by omega, fun b hb => by rw [uH2b.get _ (by omega)]⟩), ⟨(by kernel_rfl), (by kernel_rfl), (by kernel_rfl), (by kernel_rfl), (by kernel_rfl), (by kernel_rfl), (by kernel_rfl), (by kernel_rfl), (by rw [hcs]; kernel_rfl), (by kernel_rfl), True.intro⟩, (by kernel_rfl)⟩)
          · skip
            refine cf_see 44 (.bool false) (see_bool (by kernel_rfl) hc8) ?_
            refine cf_go 11 ?_
            refine cf_val 56 (.pointer (some ⟨B0, 0 + jb * 3, none⟩)) H2b (by kernel_rfl) ((by kernel_rfl : _ = val (bif (jb : Nat).blt l.length then some (.pointer (some ⟨B0, 0 + jb * 3, none⟩)) else none) H2b).trans (by rw [show (jb : Nat).blt l.length = true from (by rw [blt_dec]; simp only [decide_eq_true_eq]; omega)]; rfl)) ?_
            refine cf_go 1 ?_
            refine cf_val 58 (.int .i64 b.2.1) H2b (by kernel_rfl) ((by kernel_rfl : _ = val (aload T2 3 (.pointer (some ⟨B0, 0 + jb * 3 + 1, none⟩)) H2b) H2b).trans (val_of ((aload_at gH2bB0).trans (aloadC_cellB (n := 1) (by kernel_rfl) (by kernel_rfl) (ivs_cell _ _ _ 1 hb (by decide)))))) ?_
            refine cf_go 3 ?_
            rcases Bool.eq_false_or_eq_true (((b.2.1 : Int) == i.2.2)) with hc12 | hc12
            · skip
              refine cf_see 61 (.bool true) (see_bool (by kernel_rfl) hc12) ?_
              refine cf_go 2 ?_
              refine cf_val 64 (.pointer (some ⟨B0, 0 + jb * 3, none⟩)) H2b (by kernel_rfl) ((by kernel_rfl : _ = val (bif (jb : Nat).blt l.length then some (.pointer (some ⟨B0, 0 + jb * 3, none⟩)) else none) H2b).trans (by rw [show (jb : Nat).blt l.length = true from (by rw [blt_dec]; simp only [decide_eq_true_eq]; omega)]; rfl)) ?_
              refine cf_go 1 ?_
              refine cf_val 66 (.int .i64 b.2.2) H2b (by kernel_rfl) ((by kernel_rfl : _ = val (aload T2 3 (.pointer (some ⟨B0, 0 + jb * 3 + 2, none⟩)) H2b) H2b).trans (val_of ((aload_at gH2bB0).trans (aloadC_cellB (n := 1) (by kernel_rfl) (by kernel_rfl) (ivs_cell _ _ _ 2 hb (by decide)))))) ?_
              refine cf_go 6 ?_
              rcases Bool.eq_false_or_eq_true (((b.2.2 : Int) == i.2.2)) with hc13 | hc13
              · skip
                refine cf_see 70 (.bool true) (see_bool (by kernel_rfl) hc13) ?_
                have hat : atB b.2.1 b.2.2 i.2.2 = true := by rw [atB_iff]; simp only [decide_eq_true_eq, decide_eq_false_iff_not, beq_iff_eq, beq_eq_false_iff_ne, Bool.not_eq_true, ne_eq] at hc8 hc12 hc13; omega
                refine cf_go 4 ?_
                refine cf_see 72 (.int .i64 (cnt (l.take (jb + 1)) i.2.2)) (see_int (x := (IntKind.i64.wrap ((cnt (l.take jb) i.2.2) + 1))) (by kernel_rfl) (w64 (by rw [cnt_take hb, hat]; rfl) (by have := cnt_bnd l (jb + 1) i.2.2 hlen; omega) (by have := cnt_bnd l (jb + 1) i.2.2 hlen; omega))) ?_
                refine cf_go 7 ?_
                refine cf_see 36 (.int .i64 ((jb + 1 : Nat) : Int)) (see_int (x := (IntKind.i64.wrap (((jb : Nat) : Int) + 1))) (by kernel_rfl) (w64 (by omega) (by omega) (by omega))) ?_
                refine cf_go 2 ?_
                refine cf_inv Rr3 (by kernel_rfl) (hRr3 _ ⟨l.length - (jb + 1), by omega, jb + 1, H2b, rfl, by omega, gYb, by omega, by omega, (show Up H.n H H2b from ⟨by omega, fun b hb => by rw [uH2b.get _ (by omega)]⟩), ⟨(by kernel_rfl), (by kernel_rfl), (by kernel_rfl), (by kernel_rfl), (by kernel_rfl), (by kernel_rfl), (by kernel_rfl), (by kernel_rfl), (by kernel_rfl), (by kernel_rfl), True.intro⟩, (by kernel_rfl)⟩)
              · skip
                refine cf_see 70 (.bool false) (see_bool (by kernel_rfl) hc13) ?_
                refine cf_go 7 ?_
                refine cf_see 36 (.int .i64 ((jb + 1 : Nat) : Int)) (see_int (x := (IntKind.i64.wrap (((jb : Nat) : Int) + 1))) (by kernel_rfl) (w64 (by omega) (by omega) (by omega))) ?_
                refine cf_go 2 ?_
                have hat : atB b.2.1 b.2.2 i.2.2 = false := by refine Bool.eq_false_iff.2 fun h9 => ?_; rw [atB_iff] at h9; simp only [decide_eq_true_eq, decide_eq_false_iff_not, beq_iff_eq, beq_eq_false_iff_ne, Bool.not_eq_true, ne_eq] at hc8 hc12 hc13; omega
                have hcs : cnt (l.take (jb + 1)) i.2.2 = cnt (l.take jb) i.2.2 := by rw [cnt_take hb, hat]; simp
                refine cf_inv Rr3 (by kernel_rfl) (hRr3 _ ⟨l.length - (jb + 1), by omega, jb + 1, H2b, rfl, by omega, gYb, by omega, by omega, (show Up H.n H H2b from ⟨by omega, fun b hb => by rw [uH2b.get _ (by omega)]⟩), ⟨(by kernel_rfl), (by kernel_rfl), (by kernel_rfl), (by kernel_rfl), (by kernel_rfl), (by kernel_rfl), (by kernel_rfl), (by kernel_rfl), (by rw [hcs]; kernel_rfl), (by kernel_rfl), True.intro⟩, (by kernel_rfl)⟩)
            · skip
              refine cf_see 61 (.bool false) (see_bool (by kernel_rfl) hc12) ?_
              refine cf_go 18 ?_
              refine cf_see 36 (.int .i64 ((jb + 1 : Nat) : Int)) (see_int (x := (IntKind.i64.wrap (((jb : Nat) : Int) + 1))) (by kernel_rfl) (w64 (by omega) (by omega) (by omega))) ?_
              refine cf_go 2 ?_
              have hat : atB b.2.1 b.2.2 i.2.2 = false := by refine Bool.eq_false_iff.2 fun h9 => ?_; rw [atB_iff] at h9; simp only [decide_eq_true_eq, decide_eq_false_iff_not, beq_iff_eq, beq_eq_false_iff_ne, Bool.not_eq_true, ne_eq] at hc8 hc12; omega
              have hcs : cnt (l.take (jb + 1)) i.2.2 = cnt (l.take jb) i.2.2 := by rw [cnt_take hb, hat]; simp
              refine cf_inv Rr3 (by kernel_rfl) (hRr3 _ ⟨l.length - (jb + 1), by omega, jb + 1, H2b, rfl, by omega, gYb, by omega, by omega, (show Up H.n H H2b from ⟨by omega, fun b hb => by rw [uH2b.get _ (by omega)]⟩), ⟨(by kernel_rfl), (by kernel_rfl), (by kernel_rfl), (by kernel_rfl), (by kernel_rfl), (by kernel_rfl), (by kernel_rfl), (by kernel_rfl), (by rw [hcs]; kernel_rfl), (by kernel_rfl), True.intro⟩, (by kernel_rfl)⟩)
        · skip
          obtain rfl : jb = l.length := by omega
          have hclb : cnt (l.take l.length) i.2.2 = cnt l i.2.2 := by rw [List.take_length]
          refine cf_see 7 (.int .i64 (cnt l i.2.2)) (see_int (x := (cnt (l.take l.length) i.2.2)) (by kernel_rfl) hclb) ?_
          refine cf_go 7 ?_
          refine cf_see 34 (.bool false) (see_bool (by kernel_rfl) ((decide_eq_false (by omega)) : ((decide (((l.length : Nat) : Int) < ((l.length : Nat) : Int)))) = false)) ?_
          refine cf_go 15 ?_
          rcases Bool.eq_false_or_eq_true ((decide (((cnt l i.2.2) : Int) > (cnt l i.2.1)))) with hc14 | hc14
          · skip
            refine cf_see 75 (.bool true) (see_bool (by kernel_rfl) hc14) ?_
            refine cf_go 29 ?_
            refine cf_see 14 (.int .i64 ((k + 1 : Nat) : Int)) (see_int (x := (IntKind.i64.wrap (((k : Nat) : Int) + 1))) (by kernel_rfl) (w64 (by omega) (by omega) (by omega))) ?_
            refine cf_go 2 ?_
            have hm9 : rmost l (l.take (k + 1)) = (cnt l i.2.2) := by
              rw [rmost_take hi]; simp only [decide_eq_true_eq, decide_eq_false_iff_not, beq_iff_eq, beq_eq_false_iff_ne, Bool.not_eq_true, ne_eq, gt_iff_lt] at hc7 hc14; omega
            refine cf_inv Rr1 (by kernel_rfl) (hRr1 _ ⟨l.length - (k + 1), by omega, k + 1, H2b, rfl, by omega, (show Up H.n H H2b from ⟨by omega, fun b hb => by rw [uH2b.get _ (by omega)]⟩), ⟨(by kernel_rfl), (by kernel_rfl), (by rw [hm9]; kernel_rfl), (by kernel_rfl), True.intro⟩, (by kernel_rfl)⟩)
          · skip
            refine cf_see 75 (.bool false) (see_bool (by kernel_rfl) hc14) ?_
            refine cf_go 26 ?_
            refine cf_see 14 (.int .i64 ((k + 1 : Nat) : Int)) (see_int (x := (IntKind.i64.wrap (((k : Nat) : Int) + 1))) (by kernel_rfl) (w64 (by omega) (by omega) (by omega))) ?_
            refine cf_go 2 ?_
            have hm9 : rmost l (l.take (k + 1)) = (cnt l i.2.1) := by
              rw [rmost_take hi]; simp only [decide_eq_true_eq, decide_eq_false_iff_not, beq_iff_eq, beq_eq_false_iff_ne, Bool.not_eq_true, ne_eq, gt_iff_lt] at hc7 hc14; omega
            refine cf_inv Rr1 (by kernel_rfl) (hRr1 _ ⟨l.length - (k + 1), by omega, k + 1, H2b, rfl, by omega, (show Up H.n H H2b from ⟨by omega, fun b hb => by rw [uH2b.get _ (by omega)]⟩), ⟨(by kernel_rfl), (by kernel_rfl), (by rw [hm9]; kernel_rfl), (by kernel_rfl), True.intro⟩, (by kernel_rfl)⟩)
      · skip
        refine cf_see 75 (.bool false) (see_bool (by kernel_rfl) hc7) ?_
        refine cf_go 24 ?_
        refine cf_val 30 (.int .i64 i.2.2) H2a (by kernel_rfl) ((by kernel_rfl : _ = val (aload T2 3 (.pointer (some ⟨Ya, 1, none⟩)) H2a) H2a).trans (val_of ((aload_at gYa).trans (by kernel_rfl)))) ?_
        refine cf_go 15 ?_
        obtain ⟨Yb, hYb⟩ : ∃ D, D = Ya := ⟨_, rfl⟩
        rw [← hYb] at gYa
        refine cf_loop 79 (cl (cl (cr (cl (cr (cr (cl (cl (cr (cr (cl (cl (cr (cl (cl (cr (cl (cl (cr (cl (cr (cr f16b)))))))))))))))))))))) [.blk 4, .next (cr (cr (cr (cl (cl (cr (cr (cl (cl (cr (cl (cl (cr (cl (cl (cr (cl (cr (cr f16b))))))))))))))))))), .blk 3, .next (cr (cr (cr (cl (cl (cr (cl (cl (cr (cl (cl (cr (cl (cr (cr f16b))))))))))))))), .loop (cl (cl (cr (cl (cl (cr (cl (cl (cr (cl (cr (cr f16b)))))))))))), .blk 2, .blk 1, .next (cr (cr (cl (cl (cr (cl (cr (cr f16b)))))))), .inv Rr1, .blk 0, .next (cr (cr (cr f16b)))] (by kernel_rfl) (by kernel_rfl) (by kernel_rfl) (fun m9 s9 => ∃ (jb : Nat) (H2b : Heap), m9 = l.length - jb ∧ jb ≤ l.length ∧ H2b.get Yb = some ⟨[Value.int .i64 i.2.1, .int .i64 i.2.2], 3, false⟩ ∧ H.n ≤ Yb ∧ Yb < H2b.n ∧ Up H.n H H2b ∧ Kn s9.tm [(0, .slice (some ⟨B0, 0, none⟩) l.length (unk + 3)), (2, .int .i64 0), (3, .int .i64 (rmost l (l.take k))), (4, .int .i64 ((k : Nat) : Int)), (25, .slice (some ⟨Yb, 0, none⟩) 2 2), (26, .int .i64 2), (27, .int .i64 1), (6, .int .i64 i.2.2), (7, .int .i64 (cnt (l.take jb) i.2.2)), (8, .int .i64 ((jb : Nat) : Int))] ∧ s9.H = H2b) (l.length) ⟨0, H2a, by omega, by omega, gYa, by omega, by omega, (show Up H.n H H2a from ⟨by omega, fun b hb => by rw [uH2a.get _ (by omega)]⟩), ⟨(by kernel_rfl), (by kernel_rfl), (by kernel_rfl), (by kernel_rfl), (by rw [hYb]; kernel_rfl), (by kernel_rfl), (by kernel_rfl), (by kernel_rfl), (by kernel_rfl), (by kernel_rfl), True.intro⟩, (by kernel_rfl)⟩ ?_
        rintro m9 s9 ⟨jb, H2b, hm2, hj, gYb, bX1, bX2, uH2b, hkn, hH⟩ Rr4 hRr4
        refine cf_kn [(0, .slice (some ⟨B0, 0, none⟩) l.length (unk + 3)), (2, .int .i64 0), (3, .int .i64 (rmost l (l.take k))), (4, .int .i64 ((k : Nat) : Int)), (25, .slice (some ⟨Yb, 0, none⟩) 2 2), (26, .int .i64 2), (27, .int .i64 1), (6, .int .i64 i.2.2), (7, .int .i64 (cnt (l.take jb) i.2.2)), (8, .int .i64 ((jb : Nat) : Int))] hkn hH fun tm => ?_
        have nH2b := uH2b.n
        have hcb := cnt_bnd l jb i.2.2 hlen
        by_cases hlt2 : jb < l.length
        · skip
          obtain ⟨b, hb⟩ : ∃ i, l[jb]? = some i := ⟨_, List.getElem?_eq_getElem hlt2⟩
          refine cf_go 7 ?_
          refine cf_see 34 (.bool true) (see_bool (by kernel_rfl) ((decide_eq_true (by omega)) : ((decide (((jb : Nat) : Int) < ((l.length : Nat) : Int)))) = true)) ?_
          refine cf_go 11 ?_
          refine cf_val 39 (.pointer (some ⟨B0, 0 + jb * 3, none⟩)) H2b (by kernel_rfl) ((by kernel_rfl : _ = val (bif (jb : Nat).blt l.length then some (.pointer (some ⟨B0, 0 + jb * 3, none⟩)) else none) H2b).trans (by rw [show (jb : Nat).blt l.length = true from (by rw [blt_dec]; simp only [decide_eq_true_eq]; omega)]; rfl)) ?_
          refine cf_go 1 ?_
          have gH2bB0 : H2b.get (B0) = some ⟨(ivs l), 41, false⟩ := by rw [uH2b.get _ (by omega)]; exact gB0
          refine cf_val 41 (.int .i64 b.2.1) H2b (by kernel_rfl) ((by kernel_rfl : _ = val (aload T2 3 (.pointer (some ⟨B0, 0 + jb * 3 + 1, none⟩)) H2b) H2b).trans (val_of ((aload_at gH2bB0).trans (aloadC_cellB (n := 1) (by kernel_rfl) (by kernel_rfl) (ivs_cell _ _ _ 1 hb (by decide)))))) ?_
          refine cf_go 3 ?_
          rcases Bool.eq_false_or_eq_true ((decide ((b.2.1 : Int) ≤ i.2.2))) with hc15 | hc15
          · skip
            refine cf_see 44 (.bool true) (see_bool (by kernel_rfl) hc15) ?_
            refine cf_go 2 ?_
            refine cf_val 47 (.pointer (some ⟨B0, 0 + jb * 3, none⟩)) H2b (by kernel_rfl) ((by kernel_rfl : _ = val (bif (jb : Nat).blt l.length then some (.pointer (some ⟨B0, 0 + jb * 3, none⟩)) else none) H2b).trans (by rw [show (jb : Nat).blt l.length = true from (by rw [blt_dec]; simp only [decide_eq_true_eq]; omega)]; rfl)) ?_
            refine cf_go 1 ?_
            refine cf_val 49 (.int .i64 b.2.2) H2b (by kernel_rfl) ((by kernel_rfl : _ = val (aload T2 3 (.pointer (some ⟨B0, 0 + jb * 3 + 2, none⟩)) H2b) H2b).trans (val_of ((aload_at gH2bB0).trans (aloadC_cellB (n := 1) (by kernel_rfl) (by kernel_rfl) (ivs_cell _ _ _ 2 hb (by decide)))))) ?_
            refine cf_go 4 ?_
            rcases Bool.eq_false_or_eq_true ((decide ((b.2.2 : Int) > i.2.2))) with hc16 | hc16
            · skip
              refine cf_see 53 (.bool true) (see_bool (by kernel_rfl) hc16) ?_
              have hat : atB b.2.1 b.2.2 i.2.2 = true := by rw [atB_iff]; simp only [decide_eq_true_eq, decide_eq_false_iff_not, beq_iff_eq, beq_eq_false_iff_ne, Bool.not_eq_true, ne_eq] at hc15 hc16; omega
              refine cf_go 23 ?_
              refine cf_see 72 (.int .i64 (cnt (l.take (jb + 1)) i.2.2)) (see_int (x := (IntKind.i64.wrap ((cnt (l.take jb) i.2.2) + 1))) (by kernel_rfl) (w64 (by rw [cnt_take hb, hat]; rfl) (by have := cnt_bnd l (jb + 1) i.2.2 hlen; omega) (by have := cnt_bnd l (jb + 1) i.2.2 hlen; omega))) ?_
              refine cf_go 7 ?_
              refine cf_see 36 (.int .i64 ((jb + 1 : Nat) : Int)) (see_int (x := (IntKind.i64.wrap (((jb : Nat) : Int) + 1))) (by kernel_rfl) (w64 (by omega) (by omega) (by omega))) ?_
              refine cf_go 2 ?_
              refine cf_inv Rr4 (by kernel_rfl) (hRr4 _ ⟨l.length - (jb + 1), by omega, jb + 1, H2b, rfl, by omega, gYb, by omega, by omega, (show Up H.n H H2b from ⟨by omega, fun b hb => by rw [uH2b.get _ (by omega)]⟩), ⟨(by kernel_rfl), (by kernel_rfl), (by kernel_rfl), (by kernel_rfl), (by kernel_rfl), (by kernel_rfl), (by kernel_rfl), (by kernel_rfl), (by kernel_rfl), (by kernel_rfl), True.intro⟩, (by kernel_rfl)⟩)
            · skip
              refine cf_see 53 (.bool false) (see_bool (by kernel_rfl) hc16) ?_
              refine cf_go 2 ?_
              refine cf_val 56 (.pointer (some ⟨B0, 0 + jb * 3, none⟩)) H2b (by kernel_rfl) ((by kernel_rfl : _ = val (bif (jb : Nat).blt l.length then some (.pointer (some ⟨B0, 0 + jb * 3, none⟩)) else none) H2b).trans (by rw [show (jb : Nat).blt l.length = true from (by rw [blt_dec]; simp only [decide_eq_true_eq]; omega)]; rfl)) ?_
              refine cf_go 1 ?_
              refine cf_val 58 (.int .i64 b.2.1) H2b (by kernel_rfl) ((by kernel_rfl : _ = val (aload T2 3 (.pointer (some ⟨B0, 0 + jb * 3 + 1, none⟩)) H2b) H2b).trans (val_of ((aload_at gH2bB0).trans (aloadC_cellB (n := 1) (by kernel_rfl) (by kernel_rfl) (ivs_cell _ _ _ 1 hb (by decide)))))) ?_
              refine cf_go 3 ?_
              rcases Bool.eq_false_or_eq_true (((b.2.1 : Int) == i.2.2)) with hc17 | hc17
              · skip
                refine cf_see 61 (.bool true) (see_bool (by kernel_rfl) hc17) ?_
                refine cf_go 2 ?_
                refine cf_val 64 (.pointer (some ⟨B0, 0 + jb * 3, none⟩)) H2b (by kernel_rfl) ((by kernel_rfl : _ = val (bif (jb : Nat).blt l.length then some (.pointer (some ⟨B0, 0 + jb * 3, none⟩)) else none) H2b).trans (by rw [show (jb : Nat).blt l.length = true from (by rw [blt_dec]; simp only [decide_eq_true_eq]; omega)]; rfl)) ?_
                refine cf_go 1 ?_
                refine cf_val 66 (.int .i64 b.2.2) H2b (by kernel_rfl) ((by kernel_rfl : _ = val (aload T2 3 (.pointer (some ⟨B0, 0 + jb * 3 + 2, none⟩)) H2b) H2b).trans (val_of ((aload_at gH2bB0).trans (aloadC_cellB (n := 1) (by kernel_rfl) (by kernel_rfl) (ivs_cell _ _ _ 2 hb (by decide)))))) ?_
                refine cf_go 6 ?_
                rcases Bool.eq_false_or_eq_true (((b.2.2 : Int) == i.2.2)) with hc18 | hc18
                · skip
                  refine cf_see 70 (.bool true) (see_bool (by kernel_rfl) hc18) ?_
                  have hat : atB b.2.1 b.2.2 i.2.2 = true := by rw [atB_iff]; simp only [decide_eq_true_eq, decide_eq_false_iff_not, beq_iff_eq, beq_eq_false_iff_ne, Bool.not_eq_true, ne_eq] at hc15 hc16 hc17 hc18; omega
                  refine cf_go 4 ?_
                  refine cf_see 72 (.int .i64 (cnt (l.take (jb + 1)) i.2.2)) (see_int (x := (IntKind.i64.wrap ((cnt (l.take jb) i.2.2) + 1))) (by kernel_rfl) (w64 (by rw [cnt_take hb, hat]; rfl) (by have := cnt_bnd l (jb + 1) i.2.2 hlen; omega) (by have := cnt_bnd l (jb + 1) i.2.2 hlen; omega))) ?_
                  refine cf_go 7 ?_
                  refine cf_see 36 (.int .i64 ((jb + 1 : Nat) : Int)) (see_int (x := (IntKind.i64.wrap (((jb : Nat) : Int) + 1))) (by kernel_rfl) (w64 (by omega) (by omega) (by omega))) ?_
                  refine cf_go 2 ?_
                  refine cf_inv Rr4 (by kernel_rfl) (hRr4 _ ⟨l.length - (jb + 1), by omega, jb + 1, H2b, rfl, by omega, gYb, by omega, by omega, (show Up H.n H H2b from ⟨by omega, fun b hb => by rw [uH2b.get _ (by omega)]⟩), ⟨(by kernel_rfl), (by kernel_rfl), (by kernel_rfl), (by kernel_rfl), (by kernel_rfl), (by kernel_rfl), (by kernel_rfl), (by kernel_rfl), (by kernel_rfl), (by kernel_rfl), True.intro⟩, (by kernel_rfl)⟩)
                · skip
                  refine cf_see 70 (.bool false) (see_bool (by kernel_rfl) hc18) ?_
                  refine cf_go 7 ?_
                  refine cf_see 36 (.int .i64 ((jb + 1 : Nat) : Int)) (see_int (x := (IntKind.i64.wrap (((jb : Nat) : Int) + 1))) (by kernel_rfl) (w64 (by omega) (by omega) (by omega))) ?_
                  refine cf_go 2 ?_
                  have hat : atB b.2.1 b.2.2 i.2.2 = false := by refine Bool.eq_false_iff.2 fun h9 => ?_; rw [atB_iff] at h9; simp only [decide_eq_true_eq, decide_eq_false_iff_not, beq_iff_eq, beq_eq_false_iff_ne, Bool.not_eq_true, ne_eq] at hc15 hc16 hc17 hc18; omega
                  have hcs : cnt (l.take (jb + 1)) i.2.2 = cnt (l.take jb) i.2.2 := by rw [cnt_take hb, hat]; simp
                  refine cf_inv Rr4 (by kernel_rfl) (hRr4 _ ⟨l.length - (jb + 1), by omega, jb + 1, H2b, rfl, by omega, gYb, by omega, by omega, (show Up H.n H H2b from ⟨by omega, fun b hb => by rw [uH2b.get _ (by omega)]⟩), ⟨(by kernel_rfl), (by kernel_rfl), (by kernel_rfl), (by kernel_rfl), (by kernel_rfl), (by kernel_rfl), (by kernel_rfl), (by kernel_rfl), (by rw [hcs]; kernel_rfl), (by kernel_rfl), True.intro⟩, (by kernel_rfl)⟩)
              · skip
                refine cf_see 61 (.bool false) (see_bool (by kernel_rfl) hc17) ?_
                refine cf_go 18 ?_
                refine cf_see 36 (.int .i64 ((jb + 1 : Nat) : Int)) (see_int (x := (IntKind.i64.wrap (((jb : Nat) : Int) + 1))) (by kernel_rfl) (w64 (by omega) (by omega) (by omega))) ?_
                refine cf_go 2 ?_
                have hat : atB b.2.1 b.2.2 i.2.2 = false := by refine Bool.eq_false_iff.2 fun h9 => ?_; rw [atB_iff] at h9; simp only [decide_eq_true_eq, decide_eq_false_iff_not, beq_iff_eq, beq_eq_false_iff_ne, Bool.not_eq_true, ne_eq] at hc15 hc16 hc17; omega
                have hcs : cnt (l.take (jb + 1)) i.2.2 = cnt (l.take jb) i.2.2 := by rw [cnt_take hb, hat]; simp
                refine cf_inv Rr4 (by kernel_rfl) (hRr4 _ ⟨l.length - (jb + 1), by omega, jb + 1, H2b, rfl, by omega, gYb, by omega, by omega, (show Up H.n H H2b from ⟨by omega, fun b hb => by rw [uH2b.get _ (by omega)]⟩), ⟨(by kernel_rfl), (by kernel_rfl), (by kernel_rfl), (by kernel_rfl), (by kernel_rfl), (by kernel_rfl), (by kernel_rfl), (by kernel_rfl), (by rw [hcs]; kernel_rfl), (by kernel_rfl), True.intro⟩, (by kernel_rfl)⟩)
          · skip
            refine cf_see 44 (.bool false) (see_bool (by kernel_rfl) hc15) ?_
            refine cf_go 11 ?_
            refine cf_val 56 (.pointer (some ⟨B0, 0 + jb * 3, none⟩)) H2b (by kernel_rfl) ((by kernel_rfl : _ = val (bif (jb : Nat).blt l.length then some (.pointer (some ⟨B0, 0 + jb * 3, none⟩)) else none) H2b).trans (by rw [show (jb : Nat).blt l.length = true from (by rw [blt_dec]; simp only [decide_eq_true_eq]; omega)]; rfl)) ?_
            refine cf_go 1 ?_
            refine cf_val 58 (.int .i64 b.2.1) H2b (by kernel_rfl) ((by kernel_rfl : _ = val (aload T2 3 (.pointer (some ⟨B0, 0 + jb * 3 + 1, none⟩)) H2b) H2b).trans (val_of ((aload_at gH2bB0).trans (aloadC_cellB (n := 1) (by kernel_rfl) (by kernel_rfl) (ivs_cell _ _ _ 1 hb (by decide)))))) ?_
            refine cf_go 3 ?_
            rcases Bool.eq_false_or_eq_true (((b.2.1 : Int) == i.2.2)) with hc19 | hc19
            · skip
              refine cf_see 61 (.bool true) (see_bool (by kernel_rfl) hc19) ?_
              refine cf_go 2 ?_
              refine cf_val 64 (.pointer (some ⟨B0, 0 + jb * 3, none⟩)) H2b (by kernel_rfl) ((by kernel_rfl : _ = val (bif (jb : Nat).blt l.length then some (.pointer (some ⟨B0, 0 + jb * 3, none⟩)) else none) H2b).trans (by rw [show (jb : Nat).blt l.length = true from (by rw [blt_dec]; simp only [decide_eq_true_eq]; omega)]; rfl)) ?_
              refine cf_go 1 ?_
              refine cf_val 66 (.int .i64 b.2.2) H2b (by kernel_rfl) ((by kernel_rfl : _ = val (aload T2 3 (.pointer (some ⟨B0, 0 + jb * 3 + 2, none⟩)) H2b) H2b).trans (val_of ((aload_at gH2bB0).trans (aloadC_cellB (n := 1) (by kernel_rfl) (by kernel_rfl) (ivs_cell _ _ _ 2 hb (by decide)))))) ?_
              refine cf_go 6 ?_
              rcases Bool.eq_false_or_eq_true (((b.2.2 : Int) == i.2.2)) with hc20 | hc20
              · skip
                refine cf_see 70 (.bool true) (see_bool (by kernel_rfl) hc20) ?_
                have hat : atB b.2.1 b.2.2 i.2.2 = true := by rw [atB_iff]; simp only [decide_eq_true_eq, decide_eq_false_iff_not, beq_iff_eq, beq_eq_false_iff_ne, Bool.not_eq_true, ne_eq] at hc15 hc19 hc20; omega
                refine cf_go 4 ?_
                refine cf_see 72 (.int .i64 (cnt (l.take (jb + 1)) i.2.2)) (see_int (x := (IntKind.i64.wrap ((cnt (l.take jb) i.2.2) + 1))) (by kernel_rfl) (w64 (by rw [cnt_take hb, hat]; rfl) (by have := cnt_bnd l (jb + 1) i.2.2 hlen; omega) (by have := cnt_bnd l (jb + 1) i.2.2 hlen; omega))) ?_
                refine cf_go 7 ?_
                refine cf_see 36 (.int .i64 ((jb + 1 : Nat) : Int)) (see_int (x := (IntKind.i64.wrap (((jb : Nat) : Int) + 1))) (by kernel_rfl) (w64 (by omega) (by omega) (by omega))) ?_
                refine cf_go 2 ?_
                refine cf_inv Rr4 (by kernel_rfl) (hRr4 _ ⟨l.length - (jb + 1), by omega, jb + 1, H2b, rfl, by omega, gYb, by omega, by omega, (show Up H.n H H2b from ⟨by omega, fun b hb => by rw [uH2b.get _ (by omega)]⟩), ⟨(by kernel_rfl), (by kernel_rfl), (by kernel_rfl), (by kernel_rfl), (by kernel_rfl), (by kernel_rfl), (by kernel_rfl), (by kernel_rfl), (by kernel_rfl), (by kernel_rfl), True.intro⟩, (by kernel_rfl)⟩)
              · skip
                refine cf_see 70 (.bool false) (see_bool (by kernel_rfl) hc20) ?_
                refine cf_go 7 ?_
                refine cf_see 36 (.int .i64 ((jb + 1 : Nat) : Int)) (see_int (x := (IntKind.i64.wrap (((jb : Nat) : Int) + 1))) (by kernel_rfl) (w64 (by omega) (by omega) (by omega))) ?_
                refine cf_go 2 ?_
                have hat : atB b.2.1 b.2.2 i.2.2 = false := by refine Bool.eq_false_iff.2 fun h9 => ?_; rw [atB_iff] at h9; simp only [decide_eq_true_eq, decide_eq_false_iff_not, beq_iff_eq, beq_eq_false_iff_ne, Bool.not_eq_true, ne_eq] at hc15 hc19 hc20; omega
                have hcs : cnt (l.take (jb + 1)) i.2.2 = cnt (l.take jb) i.2.2 := by rw [cnt_take hb, hat]; simp
                refine cf_inv Rr4 (by kernel_rfl) (hRr4 _ ⟨l.length - (jb + 1), by omega, jb + 1, H2b, rfl, by omega, gYb, by omega, by omega, (show Up H.n H H2b from ⟨by omega, fun b hb => by rw [uH2b.get _ (by omega)]⟩), ⟨(by kernel_rfl), (by kernel_rfl), (by kernel_rfl), (by kernel_rfl), (by kernel_rfl), (by kernel_rfl), (by kernel_rfl), (by kernel_rfl), (by rw [hcs]; kernel_rfl), (by kernel_rfl), True.intro⟩, (by kernel_rfl)⟩)
            · skip
              refine cf_see 61 (.bool false) (see_bool (by kernel_rfl) hc19) ?_
              refine cf_go 18 ?_
              refine cf_see 36 (.int .i64 ((jb + 1 : Nat) : Int)) (see_int (x := (IntKind.i64.wrap (((jb : Nat) : Int) + 1))) (by kernel_rfl) (w64 (by omega) (by omega) (by omega))) ?_
              refine cf_go 2 ?_
              have hat : atB b.2.1 b.2.2 i.2.2 = false := by refine Bool.eq_false_iff.2 fun h9 => ?_; rw [atB_iff] at h9; simp only [decide_eq_true_eq, decide_eq_false_iff_not, beq_iff_eq, beq_eq_false_iff_ne, Bool.not_eq_true, ne_eq] at hc15 hc19; omega
              have hcs : cnt (l.take (jb + 1)) i.2.2 = cnt (l.take jb) i.2.2 := by rw [cnt_take hb, hat]; simp
              refine cf_inv Rr4 (by kernel_rfl) (hRr4 _ ⟨l.length - (jb + 1), by omega, jb + 1, H2b, rfl, by omega, gYb, by omega, by omega, (show Up H.n H H2b from ⟨by omega, fun b hb => by rw [uH2b.get _ (by omega)]⟩), ⟨(by kernel_rfl), (by kernel_rfl), (by kernel_rfl), (by kernel_rfl), (by kernel_rfl), (by kernel_rfl), (by kernel_rfl), (by kernel_rfl), (by rw [hcs]; kernel_rfl), (by kernel_rfl), True.intro⟩, (by kernel_rfl)⟩)
        · skip
          obtain rfl : jb = l.length := by omega
          have hclb : cnt (l.take l.length) i.2.2 = cnt l i.2.2 := by rw [List.take_length]
          refine cf_see 7 (.int .i64 (cnt l i.2.2)) (see_int (x := (cnt (l.take l.length) i.2.2)) (by kernel_rfl) hclb) ?_
          refine cf_go 7 ?_
          refine cf_see 34 (.bool false) (see_bool (by kernel_rfl) ((decide_eq_false (by omega)) : ((decide (((l.length : Nat) : Int) < ((l.length : Nat) : Int)))) = false)) ?_
          refine cf_go 15 ?_
          rcases Bool.eq_false_or_eq_true ((decide (((cnt l i.2.2) : Int) > (rmost l (l.take k))))) with hc21 | hc21
          · skip
            refine cf_see 75 (.bool true) (see_bool (by kernel_rfl) hc21) ?_
            refine cf_go 29 ?_
            refine cf_see 14 (.int .i64 ((k + 1 : Nat) : Int)) (see_int (x := (IntKind.i64.wrap (((k : Nat) : Int) + 1))) (by kernel_rfl) (w64 (by omega) (by omega) (by omega))) ?_
            refine cf_go 2 ?_
            have hm9 : rmost l (l.take (k + 1)) = (cnt l i.2.2) := by
              rw [rmost_take hi]; simp only [decide_eq_true_eq, decide_eq_false_iff_not, beq_iff_eq, beq_eq_false_iff_ne, Bool.not_eq_true, ne_eq, gt_iff_lt] at hc7 hc21; omega
            refine cf_inv Rr1 (by kernel_rfl) (hRr1 _ ⟨l.length - (k + 1), by omega, k + 1, H2b, rfl, by omega, (show Up H.n H H2b from ⟨by omega, fun b hb => by rw [uH2b.get _ (by omega)]⟩), ⟨(by kernel_rfl), (by kernel_rfl), (by rw [hm9]; kernel_rfl), (by kernel_rfl), True.intro⟩, (by kernel_rfl)⟩)
          · skip
            refine cf_see 75 (.bool false) (see_bool (by kernel_rfl) hc21) ?_
            refine cf_go 26 ?_
            refine cf_see 14 (.int .i64 ((k + 1 : Nat) : Int)) (see_int (x := (IntKind.i64.wrap (((k : Nat) : Int) + 1))) (by kernel_rfl) (w64 (by omega) (by omega) (by omega))) ?_
            refine cf_go 2 ?_
            have hm9 : rmost l (l.take (k + 1)) = (rmost l (l.take k)) := by
              rw [rmost_take hi]; simp only [decide_eq_true_eq, decide_eq_false_iff_not, beq_iff_eq, beq_eq_false_iff_ne, Bool.not_eq_true, ne_eq, gt_iff_lt] at hc7 hc21; omega
            refine cf_inv Rr1 (by kernel_rfl) (hRr1 _ ⟨l.length - (k + 1), by omega, k + 1, H2b, rfl, by omega, (show Up H.n H H2b from ⟨by omega, fun b hb => by rw [uH2b.get _ (by omega)]⟩), ⟨(by kernel_rfl), (by kernel_rfl), (by rw [hm9]; kernel_rfl), (by kernel_rfl), True.intro⟩, (by kernel_rfl)⟩)
  · skip
    obtain rfl : k = l.length := by omega
    refine cf_go 7 ?_
    refine cf_see 12 (.bool false) (see_bool (by kernel_rfl) ((decide_eq_false (by omega)) : ((decide (((l.length : Nat) : Int) < ((l.length : Nat) : Int)))) = false)) ?_
    refine cf_go 15 ?_
    refine cf_end (.int .i64 (rmost l (l.take l.length))) H1 (by kernel_rfl) (by kernel_rfl) (by kernel_rfl) ?_
    exact ⟨by rw [List.take_length], (show Up H.n H H1 from ⟨by omega, fun b hb => by rw [uH1.get _ (by omega)]⟩)⟩
end Lm
end Go.Proofs.Ytahikechkggbfaa
