/- Chapter 20: ref19.Right. -/
import Derived.Test.YtahikechkggbfaaLc
namespace Go.Proofs.Ytahikechkggbfaa
open Go Go.Ev Go.RowKit
set_option linter.unusedVariables false
set_option linter.unusedSimpArgs false
set_option maxRecDepth 100000
namespace Lm
noncomputable def f18b : Code := Try.f18.body.getD .skip
theorem f18_body : Try.f18.body = some f18b := by kernel_rfl
theorem f18_fn : T2.fn 18 = some Try.f18 := by kernel_rfl
noncomputable def f30b : Code := Try.f30.body.getD .skip
theorem f30_body : Try.f30.body = some f30b := by kernel_rfl
theorem f30_fn : T2.fn 30 = some Try.f30 := by kernel_rfl
set_option maxHeartbeats 4000000 in
theorem rright_ok {H : Heap} {c : List II} {o : List Int} {fl : Int} {pc po : Option Addr} {cc co lo : Nat} {vs : Nat} (hok : PgOk c o fl) (hgc : Gr H lo 50 5 (.slice pc c.length cc) c.length (iis c)) (hgo : Gr H lo 3 1 (.slice po o.length co) o.length (o.map (Value.int .i64))) (hvs : vs = c.length) : ACall Try.prog T2 18 #[.agg #[(.slice pc c.length cc), .int .i64 0, .int .i64 0, .int .i64 0, .int .i64 0, (.slice po o.length co), .slice none 0 0, .int .i64 fl, .int .u32 0, .int .i64 (-1), .int .i64 0, .int .u32 0, .int .i64 1, .int .i64 ((vs : Nat) : Int)]] H fun r H' => r = .bool true ∧ Up H.n H H' := by
  have hlen := hok.len
  have hol := hok.ol
  have hfl := hok.fl_
  refine acall_cf 145 (initTm 0 #[.agg #[(.slice pc c.length cc), .int .i64 0, .int .i64 0, .int .i64 0, .int .i64 0, (.slice po o.length co), .slice none 0 0, .int .i64 fl, .int .u32 0, .int .i64 (-1), .int .i64 0, .int .u32 0, .int .i64 1, .int .i64 ((vs : Nat) : Int)]]) rfl f18_fn f18_body rfl rfl ?_
  refine cf_go 2 ?_
  obtain ⟨H1_, hH1_⟩ : ∃ x : Heap, x = H.push ⟨[(.slice pc c.length cc), .int .i64 0, .int .i64 0, .int .i64 0, .int .i64 0, (.slice po o.length co), .slice none 0 0, .int .i64 fl, .int .u32 0, .int .i64 (-1), .int .i64 0, .int .u32 0, .int .i64 1, .int .i64 ((vs : Nat) : Int)], 29, false⟩ := ⟨_, rfl⟩
  have nH1_ : H1_.n = H.n + 1 := by rw [hH1_]; rfl
  refine cf_val 1 (.pointer (some ⟨H.n, 0, none⟩)) H1_ (by kernel_rfl) ((by kernel_rfl : _ = some (Res.val (.pointer (some ⟨H.n, 0, none⟩)), H.push ⟨[(.slice pc c.length cc), .int .i64 0, .int .i64 0, .int .i64 0, .int .i64 0, (.slice po o.length co), .slice none 0 0, .int .i64 fl, .int .u32 0, .int .i64 (-1), .int .i64 0, .int .u32 0, .int .i64 1, .int .i64 ((vs : Nat) : Int)], 29, false⟩)).trans (by rw [← hH1_])) ?_
  refine cf_go 6 ?_
  have gH1_H_n : H1_.get (H.n) = some ⟨[(.slice pc c.length cc), .int .i64 0, .int .i64 0, .int .i64 0, .int .i64 0, (.slice po o.length co), .slice none 0 0, .int .i64 fl, .int .u32 0, .int .i64 (-1), .int .i64 0, .int .u32 0, .int .i64 1, .int .i64 ((vs : Nat) : Int)], 29, false⟩ := by rw [hH1_]; exact (Heap.get_push _ _ _).trans (if_pos rfl)
  refine cf_val 11 ((.slice pc c.length cc)) H1_ (by kernel_rfl) ((by kernel_rfl : _ = val (aload T2 26 (.pointer (some ⟨H.n, 0, none⟩)) H1_) H1_).trans (val_of ((aload_at gH1_H_n).trans (by kernel_rfl)))) ?_
  refine cf_go 8 ?_
  refine cf_val 14 (.int .i64 ((vs : Nat) : Int)) H1_ (by kernel_rfl) ((by kernel_rfl : _ = val (aload T2 3 (.pointer (some ⟨H.n, 13, none⟩)) H1_) H1_).trans (val_of ((aload_at gH1_H_n).trans (by kernel_rfl)))) ?_
  refine cf_go 2 ?_
  refine cf_see 16 (.bool false) (see_bool (by kernel_rfl) ((bne_eq_false_iff_eq.2 (by omega)) : ((((vs : Nat) : Int) != ((c.length : Nat) : Int))) = false)) ?_
  refine cf_go 3 ?_
  refine cf_see 19 (.bool false) (see_bool (by kernel_rfl) ((decide_eq_false (by omega)) : ((decide (((c.length : Nat) : Int) > 64))) = false)) ?_
  refine cf_go 3 ?_
  refine cf_val 23 (.int .i64 1) H1_ (by kernel_rfl) ((by kernel_rfl : _ = val (aload T2 3 (.pointer (some ⟨H.n, 12, none⟩)) H1_) H1_).trans (val_of ((aload_at gH1_H_n).trans (by kernel_rfl)))) ?_
  refine cf_go 4 ?_
  refine cf_val 28 (.int .i64 1) H1_ (by kernel_rfl) ((by kernel_rfl : _ = val (aload T2 3 (.pointer (some ⟨H.n, 12, none⟩)) H1_) H1_).trans (val_of ((aload_at gH1_H_n).trans (by kernel_rfl)))) ?_
  refine cf_go 4 ?_
  refine cf_val 33 (.int .i64 0) H1_ (by kernel_rfl) ((by kernel_rfl : _ = val (aload T2 3 (.pointer (some ⟨H.n, 10, none⟩)) H1_) H1_).trans (val_of ((aload_at gH1_H_n).trans (by kernel_rfl)))) ?_
  refine cf_go 26 ?_
  refine cf_val 52 (.int .i64 0) H1_ (by kernel_rfl) ((by kernel_rfl : _ = val (aload T2 3 (.pointer (some ⟨H.n, 1, none⟩)) H1_) H1_).trans (val_of ((aload_at gH1_H_n).trans (by kernel_rfl)))) ?_
  refine cf_go 1 ?_
  refine cf_val 54 (.int .i64 0) H1_ (by kernel_rfl) ((by kernel_rfl : _ = val (aload T2 3 (.pointer (some ⟨H.n, 2, none⟩)) H1_) H1_).trans (val_of ((aload_at gH1_H_n).trans (by kernel_rfl)))) ?_
  refine cf_go 1 ?_
  refine cf_val 56 (.int .i64 0) H1_ (by kernel_rfl) ((by kernel_rfl : _ = val (aload T2 3 (.pointer (some ⟨H.n, 3, none⟩)) H1_) H1_).trans (val_of ((aload_at gH1_H_n).trans (by kernel_rfl)))) ?_
  refine cf_go 1 ?_
  refine cf_val 58 (.int .i64 0) H1_ (by kernel_rfl) ((by kernel_rfl : _ = val (aload T2 3 (.pointer (some ⟨H.n, 4, none⟩)) H1_) H1_).trans (val_of ((aload_at gH1_H_n).trans (by kernel_rfl)))) ?_
  obtain ⟨H2_, hH2_⟩ : ∃ x : Heap, x = H1_.push ⟨[Value.int .i64 0, .int .i64 0, .int .i64 0, .int .i64 0], 3, false⟩ := ⟨_, rfl⟩
  have nH2_ : H2_.n = H1_.n + 1 := by rw [hH2_]; rfl
  refine cf_val 59 (.slice (some ⟨H1_.n, 0, none⟩) 4 4) H2_ (by kernel_rfl) ((by kernel_rfl : _ = some (Res.val (.slice (some ⟨H1_.n, 0, none⟩) 4 4), H1_.push ⟨[Value.int .i64 0, .int .i64 0, .int .i64 0, .int .i64 0], 3, false⟩)).trans (by rw [← hH2_])) ?_
  refine cf_go 20 ?_
  have gH2_H1__n : H2_.get (H1_.n) = some ⟨[Value.int .i64 0, .int .i64 0, .int .i64 0, .int .i64 0], 3, false⟩ := by rw [hH2_]; exact (Heap.get_push _ _ _).trans (if_pos rfl)
  refine cf_val 64 (.int .i64 0) H2_ (by kernel_rfl) ((by kernel_rfl : _ = val (aload T2 3 (.pointer (some ⟨H1_.n, 0, none⟩)) H2_) H2_).trans (val_of ((aload_at gH2_H1__n).trans (by kernel_rfl)))) ?_
  refine cf_go 37 ?_
  refine cf_val 64 (.int .i64 0) H2_ (by kernel_rfl) ((by kernel_rfl : _ = val (aload T2 3 (.pointer (some ⟨H1_.n, 1, none⟩)) H2_) H2_).trans (val_of ((aload_at gH2_H1__n).trans (by kernel_rfl)))) ?_
  refine cf_go 37 ?_
  refine cf_val 64 (.int .i64 0) H2_ (by kernel_rfl) ((by kernel_rfl : _ = val (aload T2 3 (.pointer (some ⟨H1_.n, 2, none⟩)) H2_) H2_).trans (val_of ((aload_at gH2_H1__n).trans (by kernel_rfl)))) ?_
  refine cf_go 37 ?_
  refine cf_val 64 (.int .i64 0) H2_ (by kernel_rfl) ((by kernel_rfl : _ = val (aload T2 3 (.pointer (some ⟨H1_.n, 3, none⟩)) H2_) H2_).trans (val_of ((aload_at gH2_H1__n).trans (by kernel_rfl)))) ?_
  refine cf_go 42 ?_
  have gH2_H_n : H2_.get (H.n) = some ⟨[(.slice pc c.length cc), .int .i64 0, .int .i64 0, .int .i64 0, .int .i64 0, (.slice po o.length co), .slice none 0 0, .int .i64 fl, .int .u32 0, .int .i64 (-1), .int .i64 0, .int .u32 0, .int .i64 1, .int .i64 ((vs : Nat) : Int)], 29, false⟩ := by rw [hH2_, Heap.get_push, if_neg (by omega)]; exact gH1_H_n
  refine cf_loop 145 (cl (cl (cr (cl (cr (cr (cr (cr f18b)))))))) [.blk 2, .next (cr (cr (cr (cr (cr f18b)))))] (by kernel_rfl) (by kernel_rfl) (by kernel_rfl) (fun m9 s9 => ∃ (k : Nat) (H1 : Heap), m9 = c.length - k ∧ k ≤ c.length ∧ H1.get H.n = some ⟨[(.slice pc c.length cc), .int .i64 0, .int .i64 0, .int .i64 0, .int .i64 0, (.slice po o.length co), .slice none 0 0, .int .i64 fl, .int .u32 0, .int .i64 (-1), .int .i64 0, .int .u32 0, .int .i64 1, .int .i64 ((vs : Nat) : Int)], 29, false⟩ ∧ H.n < H1.n ∧ Up H.n H H1 ∧ Kn s9.tm [(1, .pointer (some ⟨H.n, 0, none⟩)), (2, .bool false), (3, .int .i64 ((c.length : Nat) : Int)), (6, .int .i64 ((k : Nat) : Int))] ∧ s9.H = H1) (c.length) ⟨0, H2_, by omega, by omega, gH2_H_n, by omega, (show Up H.n H H2_ from ⟨by omega, fun b hb => by rw [hH2_, Heap.get_push, if_neg (by omega), hH1_, Heap.get_push, if_neg (by omega)]⟩), ⟨(by kernel_rfl), (by kernel_rfl), (by kernel_rfl), (by kernel_rfl), True.intro⟩, (by kernel_rfl)⟩ ?_
  rintro m9 s9 ⟨k, H1, hm, hk, gP, bP, uH1, hkn, hH⟩ Rr1 hRr1
  refine cf_kn [(1, .pointer (some ⟨H.n, 0, none⟩)), (2, .bool false), (3, .int .i64 ((c.length : Nat) : Int)), (6, .int .i64 ((k : Nat) : Int))] hkn hH fun tm => ?_
  have nH1 := uH1.n
  by_cases hlt : k < c.length
  · skip
    obtain ⟨ii, hx⟩ : ∃ x, c[k]? = some x := ⟨_, List.getElem?_eq_getElem hlt⟩
    rcases hok.code k ii hx with h0 | ⟨t, a, b, ht, ha1, ha2, hb1, hb2, h0⟩
    · subst h0
      rcases (by omega : k = 0 ∨ 0 < k) with hk0 | hk0
      · skip
        rcases hgc.at_ with ⟨_, h0⟩ | ⟨A, heA, gAA, hAA, _⟩
        · omega
        obtain ⟨rfl, rfl⟩ : pc = some ⟨A, 0, none⟩ ∧ cc = unk + 5 := by injection heA with e1 _ e3; exact ⟨e1, e3⟩
        refine cf_go 6 ?_
        refine cf_see 74 (.bool true) (see_bool (by kernel_rfl) ((decide_eq_true (by omega)) : ((decide (((k : Nat) : Int) < ((c.length : Nat) : Int)))) = true)) ?_
        refine cf_go 10 ?_
        refine cf_val 78 (.slice (some ⟨A, 0, none⟩) c.length (unk + 5)) H1 (by kernel_rfl) ((by kernel_rfl : _ = val (aload T2 26 (.pointer (some ⟨H.n, 0, none⟩)) H1) H1).trans (val_of ((aload_at gP).trans (by kernel_rfl)))) ?_
        refine cf_go 1 ?_
        refine cf_val 80 (.pointer (some ⟨A, 0 + k * 5, none⟩)) H1 (by kernel_rfl) ((by kernel_rfl : _ = val (bif (k : Nat).blt c.length then some (.pointer (some ⟨A, 0 + k * 5, none⟩)) else none) H1).trans (by rw [show (k : Nat).blt c.length = true from (by rw [blt_dec]; simp only [decide_eq_true_eq]; omega)]; rfl)) ?_
        refine cf_go 1 ?_
        have gH1A : H1.get (A) = some ⟨(iis c), 50, false⟩ := by rw [uH1.get _ (by omega)]; exact gAA
        refine cf_val 82 (.int .i64 ((k : Nat) : Int)) H1 (by kernel_rfl) ((by kernel_rfl : _ = val (aload T2 3 (.pointer (some ⟨A, 0 + k * 5 + 1, none⟩)) H1) H1).trans (val_of ((aload_at gH1A).trans (aloadC_cellB (n := 1) (by kernel_rfl) (by kernel_rfl) (iis_cell c k _ 1 hx (by decide)))))) ?_
        refine cf_go 2 ?_
        refine cf_see 84 (.bool false) (see_bool (by kernel_rfl) ((bne_eq_false_iff_eq.2 (by omega)) : ((((k : Nat) : Int) != ((k : Nat) : Int))) = false)) ?_
        refine cf_go 1 ?_
        refine cf_val 86 (.agg #[.slice (some ⟨A, 0, none⟩) c.length (unk + 5), .int .i64 0, .int .i64 0, .int .i64 0, .int .i64 0, (.slice po o.length co), .slice none 0 0, .int .i64 fl, .int .u32 0, .int .i64 (-1), .int .i64 0, .int .u32 0, .int .i64 1, .int .i64 ((vs : Nat) : Int)]) H1 (by kernel_rfl) ((by kernel_rfl : _ = val (aload T2 29 (.pointer (some ⟨H.n, 0, none⟩)) H1) H1).trans (val_of ((aload_at gP).trans (by kernel_rfl)))) ?_
        refine cf_go 1 ?_
        refine cf_val 88 (.slice (some ⟨A, 0, none⟩) c.length (unk + 5)) H1 (by kernel_rfl) ((by kernel_rfl : _ = val (aload T2 26 (.pointer (some ⟨H.n, 0, none⟩)) H1) H1).trans (val_of ((aload_at gP).trans (by kernel_rfl)))) ?_
        refine cf_go 1 ?_
        refine cf_val 90 (.pointer (some ⟨A, 0 + k * 5, none⟩)) H1 (by kernel_rfl) ((by kernel_rfl : _ = val (bif (k : Nat).blt c.length then some (.pointer (some ⟨A, 0 + k * 5, none⟩)) else none) H1).trans (by rw [show (k : Nat).blt c.length = true from (by rw [blt_dec]; simp only [decide_eq_true_eq]; omega)]; rfl)) ?_
        refine cf_val 91 (.agg #[.int .i64 0, .int .i64 ((k : Nat) : Int), .int .i64 0, .int .i64 0, .int .u32 ((k : Nat) : Int)]) H1 (by kernel_rfl) ((by kernel_rfl : _ = val (aload T2 50 (.pointer (some ⟨A, 0 + k * 5, none⟩)) H1) H1).trans (val_of ((aload_at gH1A).trans (aloadC_rowB (n := 5) (l := [Value.int .i64 0, .int .i64 ((k : Nat) : Int), .int .i64 0, .int .i64 0, .int .u32 ((k : Nat) : Int)]) (by kernel_rfl) (by kernel_rfl) (by kernel_rfl) (iis_at c k _ hx))))) ?_
        refine cf_go 3 ?_
        obtain ⟨H3_, hH3_⟩ : ∃ x : Heap, x = H1.push ⟨[Value.slice (some ⟨A, 0, none⟩) c.length (unk + 5), .int .i64 0, .int .i64 0, .int .i64 0, .int .i64 0, (.slice po o.length co), .slice none 0 0, .int .i64 fl, .int .u32 0, .int .i64 (-1), .int .i64 0, .int .u32 0, .int .i64 1, .int .i64 ((vs : Nat) : Int)], 29, false⟩ := ⟨_, rfl⟩
        have nH3_ : H3_.n = H1.n + 1 := by rw [hH3_]; rfl
        refine cf_val 2 (.pointer (some ⟨H1.n, 0, none⟩)) H3_ (by kernel_rfl) ((by kernel_rfl : _ = some (Res.val (.pointer (some ⟨H1.n, 0, none⟩)), H1.push ⟨[Value.slice (some ⟨A, 0, none⟩) c.length (unk + 5), .int .i64 0, .int .i64 0, .int .i64 0, .int .i64 0, (.slice po o.length co), .slice none 0 0, .int .i64 fl, .int .u32 0, .int .i64 (-1), .int .i64 0, .int .u32 0, .int .i64 1, .int .i64 ((vs : Nat) : Int)], 29, false⟩)).trans (by rw [← hH3_])) ?_
        obtain ⟨H4_, hH4_⟩ : ∃ x : Heap, x = H3_.push ⟨[Value.int .i64 0, .int .i64 ((k : Nat) : Int), .int .i64 0, .int .i64 0, .int .u32 ((k : Nat) : Int)], 50, false⟩ := ⟨_, rfl⟩
        have nH4_ : H4_.n = H3_.n + 1 := by rw [hH4_]; rfl
        refine cf_val 3 (.pointer (some ⟨H3_.n, 0, none⟩)) H4_ (by kernel_rfl) ((by kernel_rfl : _ = some (Res.val (.pointer (some ⟨H3_.n, 0, none⟩)), H3_.push ⟨[Value.int .i64 0, .int .i64 ((k : Nat) : Int), .int .i64 0, .int .i64 0, .int .u32 ((k : Nat) : Int)], 50, false⟩)).trans (by rw [← hH4_])) ?_
        refine cf_go 6 ?_
        have gH4_H3__n : H4_.get (H3_.n) = some ⟨[Value.int .i64 0, .int .i64 ((k : Nat) : Int), .int .i64 0, .int .i64 0, .int .u32 ((k : Nat) : Int)], 50, false⟩ := by rw [hH4_]; exact (Heap.get_push _ _ _).trans (if_pos rfl)
        refine cf_val 7 (.int .i64 0) H4_ (by kernel_rfl) ((by kernel_rfl : _ = val (aload T2 3 (.pointer (some ⟨H3_.n, 2, none⟩)) H4_) H4_).trans (val_of ((aload_at gH4_H3__n).trans (by kernel_rfl)))) ?_
        refine cf_go 3 ?_
        refine cf_val 11 (.int .i64 0) H4_ (by kernel_rfl) ((by kernel_rfl : _ = val (aload T2 3 (.pointer (some ⟨H3_.n, 2, none⟩)) H4_) H4_).trans (val_of ((aload_at gH4_H3__n).trans (by kernel_rfl)))) ?_
        refine cf_go 1 ?_
        refine cf_val 13 (.int .i64 ((k : Nat) : Int)) H4_ (by kernel_rfl) ((by kernel_rfl : _ = val (aload T2 3 (.pointer (some ⟨H3_.n, 1, none⟩)) H4_) H4_).trans (val_of ((aload_at gH4_H3__n).trans (by kernel_rfl)))) ?_
        refine cf_go 1 ?_
        refine cf_see 14 (.bool false) (see_bool (by kernel_rfl) ((decide_eq_false (by omega)) : ((decide ((0 : Int) < ((k : Nat) : Int)))) = false)) ?_
        refine cf_go 20 ?_
        refine cf_val 29 (.int .i64 0) H4_ (by kernel_rfl) ((by kernel_rfl : _ = val (aload T2 3 (.pointer (some ⟨H3_.n, 0, none⟩)) H4_) H4_).trans (val_of ((aload_at gH4_H3__n).trans (by kernel_rfl)))) ?_
        refine cf_go 13 ?_
        refine cf_val 33 (.int .i64 0) H4_ (by kernel_rfl) ((by kernel_rfl : _ = val (aload T2 3 (.pointer (some ⟨H3_.n, 2, none⟩)) H4_) H4_).trans (val_of ((aload_at gH4_H3__n).trans (by kernel_rfl)))) ?_
        refine cf_go 3 ?_
        refine cf_val 37 (.int .i64 0) H4_ (by kernel_rfl) ((by kernel_rfl : _ = val (aload T2 3 (.pointer (some ⟨H3_.n, 3, none⟩)) H4_) H4_).trans (val_of ((aload_at gH4_H3__n).trans (by kernel_rfl)))) ?_
        refine cf_go 20 ?_
        refine cf_see 76 (.int .i64 ((k + 1 : Nat) : Int)) (see_int (x := (IntKind.i64.wrap (((k : Nat) : Int) + 1))) (by kernel_rfl) (w64 (by omega) (by omega) (by omega))) ?_
        refine cf_go 2 ?_
        have gH4_H_n : H4_.get (H.n) = some ⟨[Value.slice (some ⟨A, 0, none⟩) c.length (unk + 5), .int .i64 0, .int .i64 0, .int .i64 0, .int .i64 0, (.slice po o.length co), .slice none 0 0, .int .i64 fl, .int .u32 0, .int .i64 (-1), .int .i64 0, .int .u32 0, .int .i64 1, .int .i64 ((vs : Nat) : Int)], 29, false⟩ := by rw [hH4_, Heap.get_push, if_neg (by omega)]; rw [hH3_, Heap.get_push, if_neg (by omega)]; exact gP
        refine cf_inv Rr1 (by kernel_rfl) (hRr1 _ ⟨c.length - (k + 1), by omega, k + 1, H4_, rfl, by omega, gH4_H_n, by omega, (show Up H.n H H4_ from ⟨by omega, fun b hb => by rw [hH4_, Heap.get_push, if_neg (by omega), hH3_, Heap.get_push, if_neg (by omega), uH1.get _ (by omega)]⟩), ⟨(by kernel_rfl), (by kernel_rfl), (by kernel_rfl), (by kernel_rfl), True.intro⟩, (by kernel_rfl)⟩)
      · skip
        rcases hgc.at_ with ⟨_, h0⟩ | ⟨A, heA, gAA, hAA, _⟩
        · omega
        obtain ⟨rfl, rfl⟩ : pc = some ⟨A, 0, none⟩ ∧ cc = unk + 5 := by injection heA with e1 _ e3; exact ⟨e1, e3⟩
        refine cf_go 6 ?_
        refine cf_see 74 (.bool true) (see_bool (by kernel_rfl) ((decide_eq_true (by omega)) : ((decide (((k : Nat) : Int) < ((c.length : Nat) : Int)))) = true)) ?_
        refine cf_go 10 ?_
        refine cf_val 78 (.slice (some ⟨A, 0, none⟩) c.length (unk + 5)) H1 (by kernel_rfl) ((by kernel_rfl : _ = val (aload T2 26 (.pointer (some ⟨H.n, 0, none⟩)) H1) H1).trans (val_of ((aload_at gP).trans (by kernel_rfl)))) ?_
        refine cf_go 1 ?_
        refine cf_val 80 (.pointer (some ⟨A, 0 + k * 5, none⟩)) H1 (by kernel_rfl) ((by kernel_rfl : _ = val (bif (k : Nat).blt c.length then some (.pointer (some ⟨A, 0 + k * 5, none⟩)) else none) H1).trans (by rw [show (k : Nat).blt c.length = true from (by rw [blt_dec]; simp only [decide_eq_true_eq]; omega)]; rfl)) ?_
        refine cf_go 1 ?_
        have gH1A : H1.get (A) = some ⟨(iis c), 50, false⟩ := by rw [uH1.get _ (by omega)]; exact gAA
        refine cf_val 82 (.int .i64 ((k : Nat) : Int)) H1 (by kernel_rfl) ((by kernel_rfl : _ = val (aload T2 3 (.pointer (some ⟨A, 0 + k * 5 + 1, none⟩)) H1) H1).trans (val_of ((aload_at gH1A).trans (aloadC_cellB (n := 1) (by kernel_rfl) (by kernel_rfl) (iis_cell c k _ 1 hx (by decide)))))) ?_
        refine cf_go 2 ?_
        refine cf_see 84 (.bool false) (see_bool (by kernel_rfl) ((bne_eq_false_iff_eq.2 (by omega)) : ((((k : Nat) : Int) != ((k : Nat) : Int))) = false)) ?_
        refine cf_go 1 ?_
        refine cf_val 86 (.agg #[.slice (some ⟨A, 0, none⟩) c.length (unk + 5), .int .i64 0, .int .i64 0, .int .i64 0, .int .i64 0, (.slice po o.length co), .slice none 0 0, .int .i64 fl, .int .u32 0, .int .i64 (-1), .int .i64 0, .int .u32 0, .int .i64 1, .int .i64 ((vs : Nat) : Int)]) H1 (by kernel_rfl) ((by kernel_rfl : _ = val (aload T2 29 (.pointer (some ⟨H.n, 0, none⟩)) H1) H1).trans (val_of ((aload_at gP).trans (by kernel_rfl)))) ?_
        refine cf_go 1 ?_
        refine cf_val 88 (.slice (some ⟨A, 0, none⟩) c.length (unk + 5)) H1 (by kernel_rfl) ((by kernel_rfl : _ = val (aload T2 26 (.pointer (some ⟨H.n, 0, none⟩)) H1) H1).trans (val_of ((aload_at gP).trans (by kernel_rfl)))) ?_
        refine cf_go 1 ?_
        refine cf_val 90 (.pointer (some ⟨A, 0 + k * 5, none⟩)) H1 (by kernel_rfl) ((by kernel_rfl : _ = val (bif (k : Nat).blt c.length then some (.pointer (some ⟨A, 0 + k * 5, none⟩)) else none) H1).trans (by rw [show (k : Nat).blt c.length = true from (by rw [blt_dec]; simp only [decide_eq_true_eq]; omega)]; rfl)) ?_
        refine cf_val 91 (.agg #[.int .i64 0, .int .i64 ((k : Nat) : Int), .int .i64 0, .int .i64 0, .int .u32 ((k : Nat) : Int)]) H1 (by kernel_rfl) ((by kernel_rfl : _ = val (aload T2 50 (.pointer (some ⟨A, 0 + k * 5, none⟩)) H1) H1).trans (val_of ((aload_at gH1A).trans (aloadC_rowB (n := 5) (l := [Value.int .i64 0, .int .i64 ((k : Nat) : Int), .int .i64 0, .int .i64 0, .int .u32 ((k : Nat) : Int)]) (by kernel_rfl) (by kernel_rfl) (by kernel_rfl) (iis_at c k _ hx))))) ?_
        refine cf_go 3 ?_
        obtain ⟨H5_, hH5_⟩ : ∃ x : Heap, x = H1.push ⟨[Value.slice (some ⟨A, 0, none⟩) c.length (unk + 5), .int .i64 0, .int .i64 0, .int .i64 0, .int .i64 0, (.slice po o.length co), .slice none 0 0, .int .i64 fl, .int .u32 0, .int .i64 (-1), .int .i64 0, .int .u32 0, .int .i64 1, .int .i64 ((vs : Nat) : Int)], 29, false⟩ := ⟨_, rfl⟩
        have nH5_ : H5_.n = H1.n + 1 := by rw [hH5_]; rfl
        refine cf_val 2 (.pointer (some ⟨H1.n, 0, none⟩)) H5_ (by kernel_rfl) ((by kernel_rfl : _ = some (Res.val (.pointer (some ⟨H1.n, 0, none⟩)), H1.push ⟨[Value.slice (some ⟨A, 0, none⟩) c.length (unk + 5), .int .i64 0, .int .i64 0, .int .i64 0, .int .i64 0, (.slice po o.length co), .slice none 0 0, .int .i64 fl, .int .u32 0, .int .i64 (-1), .int .i64 0, .int .u32 0, .int .i64 1, .int .i64 ((vs : Nat) : Int)], 29, false⟩)).trans (by rw [← hH5_])) ?_
        obtain ⟨H6_, hH6_⟩ : ∃ x : Heap, x = H5_.push ⟨[Value.int .i64 0, .int .i64 ((k : Nat) : Int), .int .i64 0, .int .i64 0, .int .u32 ((k : Nat) : Int)], 50, false⟩ := ⟨_, rfl⟩
        have nH6_ : H6_.n = H5_.n + 1 := by rw [hH6_]; rfl
        refine cf_val 3 (.pointer (some ⟨H5_.n, 0, none⟩)) H6_ (by kernel_rfl) ((by kernel_rfl : _ = some (Res.val (.pointer (some ⟨H5_.n, 0, none⟩)), H5_.push ⟨[Value.int .i64 0, .int .i64 ((k : Nat) : Int), .int .i64 0, .int .i64 0, .int .u32 ((k : Nat) : Int)], 50, false⟩)).trans (by rw [← hH6_])) ?_
        refine cf_go 6 ?_
        have gH6_H5__n : H6_.get (H5_.n) = some ⟨[Value.int .i64 0, .int .i64 ((k : Nat) : Int), .int .i64 0, .int .i64 0, .int .u32 ((k : Nat) : Int)], 50, false⟩ := by rw [hH6_]; exact (Heap.get_push _ _ _).trans (if_pos rfl)
        refine cf_val 7 (.int .i64 0) H6_ (by kernel_rfl) ((by kernel_rfl : _ = val (aload T2 3 (.pointer (some ⟨H5_.n, 2, none⟩)) H6_) H6_).trans (val_of ((aload_at gH6_H5__n).trans (by kernel_rfl)))) ?_
        refine cf_go 3 ?_
        refine cf_val 11 (.int .i64 0) H6_ (by kernel_rfl) ((by kernel_rfl : _ = val (aload T2 3 (.pointer (some ⟨H5_.n, 2, none⟩)) H6_) H6_).trans (val_of ((aload_at gH6_H5__n).trans (by kernel_rfl)))) ?_
        refine cf_go 1 ?_
        refine cf_val 13 (.int .i64 ((k : Nat) : Int)) H6_ (by kernel_rfl) ((by kernel_rfl : _ = val (aload T2 3 (.pointer (some ⟨H5_.n, 1, none⟩)) H6_) H6_).trans (val_of ((aload_at gH6_H5__n).trans (by kernel_rfl)))) ?_
        refine cf_go 1 ?_
        refine cf_see 14 (.bool true) (see_bool (by kernel_rfl) ((decide_eq_true (by omega)) : ((decide ((0 : Int) < ((k : Nat) : Int)))) = true)) ?_
        refine cf_go 3 ?_
        refine cf_val 18 (.int .i64 0) H6_ (by kernel_rfl) ((by kernel_rfl : _ = val (aload T2 3 (.pointer (some ⟨H5_.n, 3, none⟩)) H6_) H6_).trans (val_of ((aload_at gH6_H5__n).trans (by kernel_rfl)))) ?_
        refine cf_go 4 ?_
        refine cf_val 23 (.int .i64 0) H6_ (by kernel_rfl) ((by kernel_rfl : _ = val (aload T2 3 (.pointer (some ⟨H5_.n, 3, none⟩)) H6_) H6_).trans (val_of ((aload_at gH6_H5__n).trans (by kernel_rfl)))) ?_
        refine cf_go 1 ?_
        refine cf_val 25 (.int .i64 ((k : Nat) : Int)) H6_ (by kernel_rfl) ((by kernel_rfl : _ = val (aload T2 3 (.pointer (some ⟨H5_.n, 1, none⟩)) H6_) H6_).trans (val_of ((aload_at gH6_H5__n).trans (by kernel_rfl)))) ?_
        refine cf_go 1 ?_
        refine cf_see 26 (.bool true) (see_bool (by kernel_rfl) ((decide_eq_true (by omega)) : ((decide ((0 : Int) < ((k : Nat) : Int)))) = true)) ?_
        refine cf_go 8 ?_
        refine cf_val 29 (.int .i64 0) H6_ (by kernel_rfl) ((by kernel_rfl : _ = val (aload T2 3 (.pointer (some ⟨H5_.n, 0, none⟩)) H6_) H6_).trans (val_of ((aload_at gH6_H5__n).trans (by kernel_rfl)))) ?_
        refine cf_go 13 ?_
        refine cf_val 33 (.int .i64 0) H6_ (by kernel_rfl) ((by kernel_rfl : _ = val (aload T2 3 (.pointer (some ⟨H5_.n, 2, none⟩)) H6_) H6_).trans (val_of ((aload_at gH6_H5__n).trans (by kernel_rfl)))) ?_
        refine cf_go 3 ?_
        refine cf_val 37 (.int .i64 0) H6_ (by kernel_rfl) ((by kernel_rfl : _ = val (aload T2 3 (.pointer (some ⟨H5_.n, 3, none⟩)) H6_) H6_).trans (val_of ((aload_at gH6_H5__n).trans (by kernel_rfl)))) ?_
        refine cf_go 20 ?_
        refine cf_see 76 (.int .i64 ((k + 1 : Nat) : Int)) (see_int (x := (IntKind.i64.wrap (((k : Nat) : Int) + 1))) (by kernel_rfl) (w64 (by omega) (by omega) (by omega))) ?_
        refine cf_go 2 ?_
        have gH6_H_n : H6_.get (H.n) = some ⟨[Value.slice (some ⟨A, 0, none⟩) c.length (unk + 5), .int .i64 0, .int .i64 0, .int .i64 0, .int .i64 0, (.slice po o.length co), .slice none 0 0, .int .i64 fl, .int .u32 0, .int .i64 (-1), .int .i64 0, .int .u32 0, .int .i64 1, .int .i64 ((vs : Nat) : Int)], 29, false⟩ := by rw [hH6_, Heap.get_push, if_neg (by omega)]; rw [hH5_, Heap.get_push, if_neg (by omega)]; exact gP
        refine cf_inv Rr1 (by kernel_rfl) (hRr1 _ ⟨c.length - (k + 1), by omega, k + 1, H6_, rfl, by omega, gH6_H_n, by omega, (show Up H.n H H6_ from ⟨by omega, fun b hb => by rw [hH6_, Heap.get_push, if_neg (by omega), hH5_, Heap.get_push, if_neg (by omega), uH1.get _ (by omega)]⟩), ⟨(by kernel_rfl), (by kernel_rfl), (by kernel_rfl), (by kernel_rfl), True.intro⟩, (by kernel_rfl)⟩)
    · subst h0
      rcases ht with rfl | rfl
      · skip
        rcases hgc.at_ with ⟨_, h0⟩ | ⟨A, heA, gAA, hAA, _⟩
        · omega
        obtain ⟨rfl, rfl⟩ : pc = some ⟨A, 0, none⟩ ∧ cc = unk + 5 := by injection heA with e1 _ e3; exact ⟨e1, e3⟩
        refine cf_go 6 ?_
        refine cf_see 74 (.bool true) (see_bool (by kernel_rfl) ((decide_eq_true (by omega)) : ((decide (((k : Nat) : Int) < ((c.length : Nat) : Int)))) = true)) ?_
        refine cf_go 10 ?_
        refine cf_val 78 (.slice (some ⟨A, 0, none⟩) c.length (unk + 5)) H1 (by kernel_rfl) ((by kernel_rfl : _ = val (aload T2 26 (.pointer (some ⟨H.n, 0, none⟩)) H1) H1).trans (val_of ((aload_at gP).trans (by kernel_rfl)))) ?_
        refine cf_go 1 ?_
        refine cf_val 80 (.pointer (some ⟨A, 0 + k * 5, none⟩)) H1 (by kernel_rfl) ((by kernel_rfl : _ = val (bif (k : Nat).blt c.length then some (.pointer (some ⟨A, 0 + k * 5, none⟩)) else none) H1).trans (by rw [show (k : Nat).blt c.length = true from (by rw [blt_dec]; simp only [decide_eq_true_eq]; omega)]; rfl)) ?_
        refine cf_go 1 ?_
        have gH1A : H1.get (A) = some ⟨(iis c), 50, false⟩ := by rw [uH1.get _ (by omega)]; exact gAA
        refine cf_val 82 (.int .i64 ((k : Nat) : Int)) H1 (by kernel_rfl) ((by kernel_rfl : _ = val (aload T2 3 (.pointer (some ⟨A, 0 + k * 5 + 1, none⟩)) H1) H1).trans (val_of ((aload_at gH1A).trans (aloadC_cellB (n := 1) (by kernel_rfl) (by kernel_rfl) (iis_cell c k _ 1 hx (by decide)))))) ?_
        refine cf_go 2 ?_
        refine cf_see 84 (.bool false) (see_bool (by kernel_rfl) ((bne_eq_false_iff_eq.2 (by omega)) : ((((k : Nat) : Int) != ((k : Nat) : Int))) = false)) ?_
        refine cf_go 1 ?_
        refine cf_val 86 (.agg #[.slice (some ⟨A, 0, none⟩) c.length (unk + 5), .int .i64 0, .int .i64 0, .int .i64 0, .int .i64 0, (.slice po o.length co), .slice none 0 0, .int .i64 fl, .int .u32 0, .int .i64 (-1), .int .i64 0, .int .u32 0, .int .i64 1, .int .i64 ((vs : Nat) : Int)]) H1 (by kernel_rfl) ((by kernel_rfl : _ = val (aload T2 29 (.pointer (some ⟨H.n, 0, none⟩)) H1) H1).trans (val_of ((aload_at gP).trans (by kernel_rfl)))) ?_
        refine cf_go 1 ?_
        refine cf_val 88 (.slice (some ⟨A, 0, none⟩) c.length (unk + 5)) H1 (by kernel_rfl) ((by kernel_rfl : _ = val (aload T2 26 (.pointer (some ⟨H.n, 0, none⟩)) H1) H1).trans (val_of ((aload_at gP).trans (by kernel_rfl)))) ?_
        refine cf_go 1 ?_
        refine cf_val 90 (.pointer (some ⟨A, 0 + k * 5, none⟩)) H1 (by kernel_rfl) ((by kernel_rfl : _ = val (bif (k : Nat).blt c.length then some (.pointer (some ⟨A, 0 + k * 5, none⟩)) else none) H1).trans (by rw [show (k : Nat).blt c.length = true from (by rw [blt_dec]; simp only [decide_eq_true_eq]; omega)]; rfl)) ?_
        refine cf_val 91 (.agg #[.int .i64 3, .int .i64 ((k : Nat) : Int), .int .i64 a, .int .i64 b, .int .u32 20]) H1 (by kernel_rfl) ((by kernel_rfl : _ = val (aload T2 50 (.pointer (some ⟨A, 0 + k * 5, none⟩)) H1) H1).trans (val_of ((aload_at gH1A).trans (aloadC_rowB (n := 5) (l := [Value.int .i64 3, .int .i64 ((k : Nat) : Int), .int .i64 a, .int .i64 b, .int .u32 20]) (by kernel_rfl) (by kernel_rfl) (by kernel_rfl) (iis_at c k _ hx))))) ?_
        refine cf_go 3 ?_
        obtain ⟨H7_, hH7_⟩ : ∃ x : Heap, x = H1.push ⟨[Value.slice (some ⟨A, 0, none⟩) c.length (unk + 5), .int .i64 0, .int .i64 0, .int .i64 0, .int .i64 0, (.slice po o.length co), .slice none 0 0, .int .i64 fl, .int .u32 0, .int .i64 (-1), .int .i64 0, .int .u32 0, .int .i64 1, .int .i64 ((vs : Nat) : Int)], 29, false⟩ := ⟨_, rfl⟩
        have nH7_ : H7_.n = H1.n + 1 := by rw [hH7_]; rfl
        refine cf_val 2 (.pointer (some ⟨H1.n, 0, none⟩)) H7_ (by kernel_rfl) ((by kernel_rfl : _ = some (Res.val (.pointer (some ⟨H1.n, 0, none⟩)), H1.push ⟨[Value.slice (some ⟨A, 0, none⟩) c.length (unk + 5), .int .i64 0, .int .i64 0, .int .i64 0, .int .i64 0, (.slice po o.length co), .slice none 0 0, .int .i64 fl, .int .u32 0, .int .i64 (-1), .int .i64 0, .int .u32 0, .int .i64 1, .int .i64 ((vs : Nat) : Int)], 29, false⟩)).trans (by rw [← hH7_])) ?_
        obtain ⟨H8_, hH8_⟩ : ∃ x : Heap, x = H7_.push ⟨[Value.int .i64 3, .int .i64 ((k : Nat) : Int), .int .i64 a, .int .i64 b, .int .u32 20], 50, false⟩ := ⟨_, rfl⟩
        have nH8_ : H8_.n = H7_.n + 1 := by rw [hH8_]; rfl
        refine cf_val 3 (.pointer (some ⟨H7_.n, 0, none⟩)) H8_ (by kernel_rfl) ((by kernel_rfl : _ = some (Res.val (.pointer (some ⟨H7_.n, 0, none⟩)), H7_.push ⟨[Value.int .i64 3, .int .i64 ((k : Nat) : Int), .int .i64 a, .int .i64 b, .int .u32 20], 50, false⟩)).trans (by rw [← hH8_])) ?_
        refine cf_go 6 ?_
        have gH8_H7__n : H8_.get (H7_.n) = some ⟨[Value.int .i64 3, .int .i64 ((k : Nat) : Int), .int .i64 a, .int .i64 b, .int .u32 20], 50, false⟩ := by rw [hH8_]; exact (Heap.get_push _ _ _).trans (if_pos rfl)
        refine cf_val 7 (.int .i64 a) H8_ (by kernel_rfl) ((by kernel_rfl : _ = val (aload T2 3 (.pointer (some ⟨H7_.n, 2, none⟩)) H8_) H8_).trans (val_of ((aload_at gH8_H7__n).trans (by kernel_rfl)))) ?_
        refine cf_go 1 ?_
        refine cf_see 8 (.bool true) (see_bool (by kernel_rfl) ((decide_eq_true (by omega)) : ((decide ((a : Int) ≥ 0))) = true)) ?_
        refine cf_go 2 ?_
        refine cf_val 11 (.int .i64 a) H8_ (by kernel_rfl) ((by kernel_rfl : _ = val (aload T2 3 (.pointer (some ⟨H7_.n, 2, none⟩)) H8_) H8_).trans (val_of ((aload_at gH8_H7__n).trans (by kernel_rfl)))) ?_
        refine cf_go 1 ?_
        refine cf_val 13 (.int .i64 ((k : Nat) : Int)) H8_ (by kernel_rfl) ((by kernel_rfl : _ = val (aload T2 3 (.pointer (some ⟨H7_.n, 1, none⟩)) H8_) H8_).trans (val_of ((aload_at gH8_H7__n).trans (by kernel_rfl)))) ?_
        refine cf_go 1 ?_
        refine cf_see 14 (.bool true) (see_bool (by kernel_rfl) ((decide_eq_true (by omega)) : ((decide ((a : Int) < ((k : Nat) : Int)))) = true)) ?_
        refine cf_go 3 ?_
        refine cf_val 18 (.int .i64 b) H8_ (by kernel_rfl) ((by kernel_rfl : _ = val (aload T2 3 (.pointer (some ⟨H7_.n, 3, none⟩)) H8_) H8_).trans (val_of ((aload_at gH8_H7__n).trans (by kernel_rfl)))) ?_
        refine cf_go 1 ?_
        refine cf_see 19 (.bool true) (see_bool (by kernel_rfl) ((decide_eq_true (by omega)) : ((decide ((b : Int) ≥ 0))) = true)) ?_
        refine cf_go 3 ?_
        refine cf_val 23 (.int .i64 b) H8_ (by kernel_rfl) ((by kernel_rfl : _ = val (aload T2 3 (.pointer (some ⟨H7_.n, 3, none⟩)) H8_) H8_).trans (val_of ((aload_at gH8_H7__n).trans (by kernel_rfl)))) ?_
        refine cf_go 1 ?_
        refine cf_val 25 (.int .i64 ((k : Nat) : Int)) H8_ (by kernel_rfl) ((by kernel_rfl : _ = val (aload T2 3 (.pointer (some ⟨H7_.n, 1, none⟩)) H8_) H8_).trans (val_of ((aload_at gH8_H7__n).trans (by kernel_rfl)))) ?_
        refine cf_go 1 ?_
        refine cf_see 26 (.bool true) (see_bool (by kernel_rfl) ((decide_eq_true (by omega)) : ((decide ((b : Int) < ((k : Nat) : Int)))) = true)) ?_
        refine cf_go 8 ?_
        refine cf_val 29 (.int .i64 3) H8_ (by kernel_rfl) ((by kernel_rfl : _ = val (aload T2 3 (.pointer (some ⟨H7_.n, 0, none⟩)) H8_) H8_).trans (val_of ((aload_at gH8_H7__n).trans (by kernel_rfl)))) ?_
        refine cf_go 36 ?_
        refine cf_val 81 (.int .u32 20) H8_ (by kernel_rfl) ((by kernel_rfl : _ = val (aload T2 27 (.pointer (some ⟨H7_.n, 4, none⟩)) H8_) H8_).trans (val_of ((aload_at gH8_H7__n).trans (by kernel_rfl)))) ?_
        refine cf_go 4 ?_
        refine cf_val 86 (.int .u32 20) H8_ (by kernel_rfl) ((by kernel_rfl : _ = val (aload T2 27 (.pointer (some ⟨H7_.n, 4, none⟩)) H8_) H8_).trans (val_of ((aload_at gH8_H7__n).trans (by kernel_rfl)))) ?_
        refine cf_go 20 ?_
        refine cf_see 76 (.int .i64 ((k + 1 : Nat) : Int)) (see_int (x := (IntKind.i64.wrap (((k : Nat) : Int) + 1))) (by kernel_rfl) (w64 (by omega) (by omega) (by omega))) ?_
        refine cf_go 2 ?_
        have gH8_H_n : H8_.get (H.n) = some ⟨[Value.slice (some ⟨A, 0, none⟩) c.length (unk + 5), .int .i64 0, .int .i64 0, .int .i64 0, .int .i64 0, (.slice po o.length co), .slice none 0 0, .int .i64 fl, .int .u32 0, .int .i64 (-1), .int .i64 0, .int .u32 0, .int .i64 1, .int .i64 ((vs : Nat) : Int)], 29, false⟩ := by rw [hH8_, Heap.get_push, if_neg (by omega)]; rw [hH7_, Heap.get_push, if_neg (by omega)]; exact gP
        refine cf_inv Rr1 (by kernel_rfl) (hRr1 _ ⟨c.length - (k + 1), by omega, k + 1, H8_, rfl, by omega, gH8_H_n, by omega, (show Up H.n H H8_ from ⟨by omega, fun b hb => by rw [hH8_, Heap.get_push, if_neg (by omega), hH7_, Heap.get_push, if_neg (by omega), uH1.get _ (by omega)]⟩), ⟨(by kernel_rfl), (by kernel_rfl), (by kernel_rfl), (by kernel_rfl), True.intro⟩, (by kernel_rfl)⟩)
      · skip
        rcases hgc.at_ with ⟨_, h0⟩ | ⟨A, heA, gAA, hAA, _⟩
        · omega
        obtain ⟨rfl, rfl⟩ : pc = some ⟨A, 0, none⟩ ∧ cc = unk + 5 := by injection heA with e1 _ e3; exact ⟨e1, e3⟩
        refine cf_go 6 ?_
        refine cf_see 74 (.bool true) (see_bool (by kernel_rfl) ((decide_eq_true (by omega)) : ((decide (((k : Nat) : Int) < ((c.length : Nat) : Int)))) = true)) ?_
        refine cf_go 10 ?_
        refine cf_val 78 (.slice (some ⟨A, 0, none⟩) c.length (unk + 5)) H1 (by kernel_rfl) ((by kernel_rfl : _ = val (aload T2 26 (.pointer (some ⟨H.n, 0, none⟩)) H1) H1).trans (val_of ((aload_at gP).trans (by kernel_rfl)))) ?_
        refine cf_go 1 ?_
        refine cf_val 80 (.pointer (some ⟨A, 0 + k * 5, none⟩)) H1 (by kernel_rfl) ((by kernel_rfl : _ = val (bif (k : Nat).blt c.length then some (.pointer (some ⟨A, 0 + k * 5, none⟩)) else none) H1).trans (by rw [show (k : Nat).blt c.length = true from (by rw [blt_dec]; simp only [decide_eq_true_eq]; omega)]; rfl)) ?_
        refine cf_go 1 ?_
        have gH1A : H1.get (A) = some ⟨(iis c), 50, false⟩ := by rw [uH1.get _ (by omega)]; exact gAA
        refine cf_val 82 (.int .i64 ((k : Nat) : Int)) H1 (by kernel_rfl) ((by kernel_rfl : _ = val (aload T2 3 (.pointer (some ⟨A, 0 + k * 5 + 1, none⟩)) H1) H1).trans (val_of ((aload_at gH1A).trans (aloadC_cellB (n := 1) (by kernel_rfl) (by kernel_rfl) (iis_cell c k _ 1 hx (by decide)))))) ?_
        refine cf_go 2 ?_
        refine cf_see 84 (.bool false) (see_bool (by kernel_rfl) ((bne_eq_false_iff_eq.2 (by omega)) : ((((k : Nat) : Int) != ((k : Nat) : Int))) = false)) ?_
        refine cf_go 1 ?_
        refine cf_val 86 (.agg #[.slice (some ⟨A, 0, none⟩) c.length (unk + 5), .int .i64 0, .int .i64 0, .int .i64 0, .int .i64 0, (.slice po o.length co), .slice none 0 0, .int .i64 fl, .int .u32 0, .int .i64 (-1), .int .i64 0, .int .u32 0, .int .i64 1, .int .i64 ((vs : Nat) : Int)]) H1 (by kernel_rfl) ((by kernel_rfl : _ = val (aload T2 29 (.pointer (some ⟨H.n, 0, none⟩)) H1) H1).trans (val_of ((aload_at gP).trans (by kernel_rfl)))) ?_
        refine cf_go 1 ?_
        refine cf_val 88 (.slice (some ⟨A, 0, none⟩) c.length (unk + 5)) H1 (by kernel_rfl) ((by kernel_rfl : _ = val (aload T2 26 (.pointer (some ⟨H.n, 0, none⟩)) H1) H1).trans (val_of ((aload_at gP).trans (by kernel_rfl)))) ?_
        refine cf_go 1 ?_
        refine cf_val 90 (.pointer (some ⟨A, 0 + k * 5, none⟩)) H1 (by kernel_rfl) ((by kernel_rfl : _ = val (bif (k : Nat).blt c.length then some (.pointer (some ⟨A, 0 + k * 5, none⟩)) else none) H1).trans (by rw [show (k : Nat).blt c.length = true from (by rw [blt_dec]; simp only [decide_eq_true_eq]; omega)]; rfl)) ?_
        refine cf_val 91 (.agg #[.int .i64 4, .int .i64 ((k : Nat) : Int), .int .i64 a, .int .i64 b, .int .u32 20]) H1 (by kernel_rfl) ((by kernel_rfl : _ = val (aload T2 50 (.pointer (some ⟨A, 0 + k * 5, none⟩)) H1) H1).trans (val_of ((aload_at gH1A).trans (aloadC_rowB (n := 5) (l := [Value.int .i64 4, .int .i64 ((k : Nat) : Int), .int .i64 a, .int .i64 b, .int .u32 20]) (by kernel_rfl) (by kernel_rfl) (by kernel_rfl) (iis_at c k _ hx))))) ?_
        refine cf_go 3 ?_
        obtain ⟨H9_, hH9_⟩ : ∃ x : Heap, x = H1.push ⟨[Value.slice (some ⟨A, 0, none⟩) c.length (unk + 5), .int .i64 0, .int .i64 0, .int .i64 0, .int .i64 0, (.slice po o.length co), .slice none 0 0, .int .i64 fl, .int .u32 0, .int .i64 (-1), .int .i64 0, .int .u32 0, .int .i64 1, .int .i64 ((vs : Nat) : Int)], 29, false⟩ := ⟨_, rfl⟩
        have nH9_ : H9_.n = H1.n + 1 := by rw [hH9_]; rfl
        refine cf_val 2 (.pointer (some ⟨H1.n, 0, none⟩)) H9_ (by kernel_rfl) ((by kernel_rfl : _ = some (Res.val (.pointer (some ⟨H1.n, 0, none⟩)), H1.push ⟨[Value.slice (some ⟨A, 0, none⟩) c.length (unk + 5), .int .i64 0, .int .i64 0, .int .i64 0, .int .i64 0, (.slice po o.length co), .slice none 0 0, .int .i64 fl, .int .u32 0, .int .i64 (-1), .int .i64 0, .int .u32 0, .int .i64 1, .int .i64 ((vs : Nat) : Int)], 29, false⟩)).trans (by rw [← hH9_])) ?_
        obtain ⟨H10_, hH10_⟩ : ∃ x : Heap, x = H9_.push ⟨[Value.int .i64 4, .int .i64 ((k : Nat) : Int), .int .i64 a, .int .i64 b, .int .u32 20], 50, false⟩ := ⟨_, rfl⟩
        have nH10_ : H10_.n = H9_.n + 1 := by rw [hH10_]; rfl
        refine cf_val 3 (.pointer (some ⟨H9_.n, 0, none⟩)) H10_ (by kernel_rfl) ((by kernel_rfl : _ = some (Res.val (.pointer (some ⟨H9_.n, 0, none⟩)), H9_.push ⟨[Value.int .i64 4, .int .i64 ((k : Nat) : Int), .int .i64 a, .int .i64 b, .int .u32 20], 50, false⟩)).trans (by rw [← hH10_])) ?_
        refine cf_go 6 ?_
        have gH10_H9__n : H10_.get (H9_.n) = some ⟨[Value.int .i64 4, .int .i64 ((k : Nat) : Int), .int .i64 a, .int .i64 b, .int .u32 20], 50, false⟩ := by rw [hH10_]; exact (Heap.get_push _ _ _).trans (if_pos rfl)
        refine cf_val 7 (.int .i64 a) H10_ (by kernel_rfl) ((by kernel_rfl : _ = val (aload T2 3 (.pointer (some ⟨H9_.n, 2, none⟩)) H10_) H10_).trans (val_of ((aload_at gH10_H9__n).trans (by kernel_rfl)))) ?_
        refine cf_go 1 ?_
        refine cf_see 8 (.bool true) (see_bool (by kernel_rfl) ((decide_eq_true (by omega)) : ((decide ((a : Int) ≥ 0))) = true)) ?_
        refine cf_go 2 ?_
        refine cf_val 11 (.int .i64 a) H10_ (by kernel_rfl) ((by kernel_rfl : _ = val (aload T2 3 (.pointer (some ⟨H9_.n, 2, none⟩)) H10_) H10_).trans (val_of ((aload_at gH10_H9__n).trans (by kernel_rfl)))) ?_
        refine cf_go 1 ?_
        refine cf_val 13 (.int .i64 ((k : Nat) : Int)) H10_ (by kernel_rfl) ((by kernel_rfl : _ = val (aload T2 3 (.pointer (some ⟨H9_.n, 1, none⟩)) H10_) H10_).trans (val_of ((aload_at gH10_H9__n).trans (by kernel_rfl)))) ?_
        refine cf_go 1 ?_
        refine cf_see 14 (.bool true) (see_bool (by kernel_rfl) ((decide_eq_true (by omega)) : ((decide ((a : Int) < ((k : Nat) : Int)))) = true)) ?_
        refine cf_go 3 ?_
        refine cf_val 18 (.int .i64 b) H10_ (by kernel_rfl) ((by kernel_rfl : _ = val (aload T2 3 (.pointer (some ⟨H9_.n, 3, none⟩)) H10_) H10_).trans (val_of ((aload_at gH10_H9__n).trans (by kernel_rfl)))) ?_
        refine cf_go 1 ?_
        refine cf_see 19 (.bool true) (see_bool (by kernel_rfl) ((decide_eq_true (by omega)) : ((decide ((b : Int) ≥ 0))) = true)) ?_
        refine cf_go 3 ?_
        refine cf_val 23 (.int .i64 b) H10_ (by kernel_rfl) ((by kernel_rfl : _ = val (aload T2 3 (.pointer (some ⟨H9_.n, 3, none⟩)) H10_) H10_).trans (val_of ((aload_at gH10_H9__n).trans (by kernel_rfl)))) ?_
        refine cf_go 1 ?_
        refine cf_val 25 (.int .i64 ((k : Nat) : Int)) H10_ (by kernel_rfl) ((by kernel_rfl : _ = val (aload T2 3 (.pointer (some ⟨H9_.n, 1, none⟩)) H10_) H10_).trans (val_of ((aload_at gH10_H9__n).trans (by kernel_rfl)))) ?_
        refine cf_go 1 ?_
        refine cf_see 26 (.bool true) (see_bool (by kernel_rfl) ((decide_eq_true (by omega)) : ((decide ((b : Int) < ((k : Nat) : Int)))) = true)) ?_
        refine cf_go 8 ?_
        refine cf_val 29 (.int .i64 4) H10_ (by kernel_rfl) ((by kernel_rfl : _ = val (aload T2 3 (.pointer (some ⟨H9_.n, 0, none⟩)) H10_) H10_).trans (val_of ((aload_at gH10_H9__n).trans (by kernel_rfl)))) ?_
        refine cf_go 43 ?_
        refine cf_val 94 (.int .u32 20) H10_ (by kernel_rfl) ((by kernel_rfl : _ = val (aload T2 27 (.pointer (some ⟨H9_.n, 4, none⟩)) H10_) H10_).trans (val_of ((aload_at gH10_H9__n).trans (by kernel_rfl)))) ?_
        refine cf_go 3 ?_
        refine cf_val 98 (.int .u32 20) H10_ (by kernel_rfl) ((by kernel_rfl : _ = val (aload T2 27 (.pointer (some ⟨H9_.n, 4, none⟩)) H10_) H10_).trans (val_of ((aload_at gH10_H9__n).trans (by kernel_rfl)))) ?_
        refine cf_go 26 ?_
        refine cf_see 76 (.int .i64 ((k + 1 : Nat) : Int)) (see_int (x := (IntKind.i64.wrap (((k : Nat) : Int) + 1))) (by kernel_rfl) (w64 (by omega) (by omega) (by omega))) ?_
        refine cf_go 2 ?_
        have gH10_H_n : H10_.get (H.n) = some ⟨[Value.slice (some ⟨A, 0, none⟩) c.length (unk + 5), .int .i64 0, .int .i64 0, .int .i64 0, .int .i64 0, (.slice po o.length co), .slice none 0 0, .int .i64 fl, .int .u32 0, .int .i64 (-1), .int .i64 0, .int .u32 0, .int .i64 1, .int .i64 ((vs : Nat) : Int)], 29, false⟩ := by rw [hH10_, Heap.get_push, if_neg (by omega)]; rw [hH9_, Heap.get_push, if_neg (by omega)]; exact gP
        refine cf_inv Rr1 (by kernel_rfl) (hRr1 _ ⟨c.length - (k + 1), by omega, k + 1, H10_, rfl, by omega, gH10_H_n, by omega, (show Up H.n H H10_ from ⟨by omega, fun b hb => by rw [hH10_, Heap.get_push, if_neg (by omega), hH9_, Heap.get_push, if_neg (by omega), uH1.get _ (by omega)]⟩), ⟨(by kernel_rfl), (by kernel_rfl), (by kernel_rfl), (by kernel_rfl), True.intro⟩, (by kernel_rfl)⟩)
  · skip
    have hke : k = c.length := by omega
    refine cf_go 6 ?_
    refine cf_see 74 (.bool false) (see_bool (by kernel_rfl) ((decide_eq_false (by omega)) : ((decide (((k : Nat) : Int) < ((c.length : Nat) : Int)))) = false)) ?_
    refine cf_go 12 ?_
    refine cf_val 96 ((.slice po o.length co)) H1 (by kernel_rfl) ((by kernel_rfl : _ = val (aload T2 22 (.pointer (some ⟨H.n, 5, none⟩)) H1) H1).trans (val_of ((aload_at gP).trans (by kernel_rfl)))) ?_
    refine cf_go 1 ?_
    refine cf_val 98 (.slice none 0 0) H1 (by kernel_rfl) ((by kernel_rfl : _ = val (aload T2 22 (.pointer (some ⟨H.n, 6, none⟩)) H1) H1).trans (val_of ((aload_at gP).trans (by kernel_rfl)))) ?_
    obtain ⟨H11_, hH11_⟩ : ∃ x : Heap, x = H1.push ⟨[(.slice po o.length co), .slice none 0 0], 22, false⟩ := ⟨_, rfl⟩
    have nH11_ : H11_.n = H1.n + 1 := by rw [hH11_]; rfl
    refine cf_val 99 (.slice (some ⟨H1.n, 0, none⟩) 2 2) H11_ (by kernel_rfl) ((by kernel_rfl : _ = some (Res.val (.slice (some ⟨H1.n, 0, none⟩) 2 2), H1.push ⟨[(.slice po o.length co), .slice none 0 0], 22, false⟩)).trans (by rw [← hH11_])) ?_
    refine cf_go 20 ?_
    have gH11_H1_n : H11_.get (H1.n) = some ⟨[(.slice po o.length co), .slice none 0 0], 22, false⟩ := by rw [hH11_]; exact (Heap.get_push _ _ _).trans (if_pos rfl)
    refine cf_val 104 ((.slice po o.length co)) H11_ (by kernel_rfl) ((by kernel_rfl : _ = val (aload T2 22 (.pointer (some ⟨H1.n, 0, none⟩)) H11_) H11_).trans (val_of ((aload_at gH11_H1_n).trans (by kernel_rfl)))) ?_
    refine cf_go 9 ?_
    have gH11_H_n : H11_.get (H.n) = some ⟨[(.slice pc c.length cc), .int .i64 0, .int .i64 0, .int .i64 0, .int .i64 0, (.slice po o.length co), .slice none 0 0, .int .i64 fl, .int .u32 0, .int .i64 (-1), .int .i64 0, .int .u32 0, .int .i64 1, .int .i64 ((vs : Nat) : Int)], 29, false⟩ := by rw [hH11_, Heap.get_push, if_neg (by omega)]; exact gP
    obtain ⟨TB, hTB⟩ : ∃ D, D = H1.n := ⟨_, rfl⟩
    rw [← hTB] at gH11_H1_n
    refine cf_loop 145 (cl (cl (cr (cr (cl (cl (cr (cr (cl (cl (cr (cl (cr (cr (cr (cr (cr f18b))))))))))))))))) [.blk 6, .blk 5, .next (cr (cr (cr (cl (cl (cr (cl (cr (cr (cr (cr (cr f18b)))))))))))), .loop (cl (cl (cr (cl (cr (cr (cr (cr (cr f18b))))))))), .blk 4, .next (cr (cr (cr (cr (cr (cr f18b))))))] (by kernel_rfl) (by kernel_rfl) (by kernel_rfl) (fun m9 s9 => ∃ (j : Nat) (H2 : Heap), m9 = o.length - j ∧ j ≤ o.length ∧ H2.get H.n = some ⟨[(.slice pc c.length cc), .int .i64 0, .int .i64 0, .int .i64 0, .int .i64 0, (.slice po o.length co), .slice none 0 0, .int .i64 fl, .int .u32 0, .int .i64 (-1), .int .i64 0, .int .u32 0, .int .i64 1, .int .i64 ((vs : Nat) : Int)], 29, false⟩ ∧ H2.get TB = some ⟨[(.slice po o.length co), .slice none 0 0], 22, false⟩ ∧ H.n < H2.n ∧ TB < H2.n ∧ H.n < TB ∧ Up H.n H H2 ∧ Kn s9.tm [(1, .pointer (some ⟨H.n, 0, none⟩)), (2, .bool false), (3, .int .i64 ((c.length : Nat) : Int)), (100, .int .i64 2), (101, .int .i64 0), (99, .slice (some ⟨TB, 0, none⟩) 2 2), (8, (.slice po o.length co)), (9, .int .i64 ((j : Nat) : Int))] ∧ s9.H = H2) (o.length) ⟨0, H11_, by omega, by omega, gH11_H_n, gH11_H1_n, by omega, by omega, by omega, (show Up H.n H H11_ from ⟨by omega, fun b hb => by rw [hH11_, Heap.get_push, if_neg (by omega), uH1.get _ (by omega)]⟩), ⟨(by kernel_rfl), (by kernel_rfl), (by kernel_rfl), (by kernel_rfl), (by kernel_rfl), (by rw [hTB]; kernel_rfl), (by kernel_rfl), (by kernel_rfl), True.intro⟩, (by kernel_rfl)⟩ ?_
    rintro m9 s9 ⟨j, H2, hm2, hj, gP2, gTB, bP2, bTB, bT3, uH2, hkn, hH⟩ Rr2 hRr2
    refine cf_kn [(1, .pointer (some ⟨H.n, 0, none⟩)), (2, .bool false), (3, .int .i64 ((c.length : Nat) : Int)), (100, .int .i64 2), (101, .int .i64 0), (99, .slice (some ⟨TB, 0, none⟩) 2 2), (8, (.slice po o.length co)), (9, .int .i64 ((j : Nat) : Int))] hkn hH fun tm => ?_
    have nH2 := uH2.n
    by_cases hlt2 : j < o.length
    · skip
      obtain ⟨x, hx⟩ : ∃ x, o[j]? = some x := ⟨_, List.getElem?_eq_getElem hlt2⟩
      have hxo := hok.outs j x hx
      rcases hgo.at_ with ⟨_, h0⟩ | ⟨B, heB, gAB, hAB, _⟩
      · omega
      obtain ⟨rfl, rfl⟩ : po = some ⟨B, 0, none⟩ ∧ co = unk + 1 := by injection heB with e1 _ e3; exact ⟨e1, e3⟩
      have cx : (o.map (Value.int .i64))[0 + j * 1]? = some (.int .i64 x) := by rw [List.getElem?_map, show 0 + j * 1 = j by omega, hx]; rfl
      refine cf_go 7 ?_
      refine cf_see 108 (.bool true) (see_bool (by kernel_rfl) ((decide_eq_true (by omega)) : ((decide (((j : Nat) : Int) < ((o.length : Nat) : Int)))) = true)) ?_
      refine cf_go 11 ?_
      refine cf_val 113 (.pointer (some ⟨B, 0 + j * 1, none⟩)) H2 (by kernel_rfl) ((by kernel_rfl : _ = val (bif (j : Nat).blt o.length then some (.pointer (some ⟨B, 0 + j * 1, none⟩)) else none) H2).trans (by rw [show (j : Nat).blt o.length = true from (by rw [blt_dec]; simp only [decide_eq_true_eq]; omega)]; rfl)) ?_
      have gH2B : H2.get (B) = some ⟨(o.map (Value.int .i64)), 3, false⟩ := by rw [uH2.get _ (by omega)]; exact gAB
      refine cf_val 114 (.int .i64 x) H2 (by kernel_rfl) ((by kernel_rfl : _ = val (aload T2 3 (.pointer (some ⟨B, 0 + j * 1, none⟩)) H2) H2).trans (val_of ((aload_at gH2B).trans (aloadC_cellB (n := 1) (by kernel_rfl) (by kernel_rfl) cx)))) ?_
      refine cf_go 1 ?_
      refine cf_see 115 (.bool false) (see_bool (by kernel_rfl) ((decide_eq_false (by omega)) : ((decide ((x : Int) < 0))) = false)) ?_
      refine cf_go 3 ?_
      refine cf_val 119 (.pointer (some ⟨B, 0 + j * 1, none⟩)) H2 (by kernel_rfl) ((by kernel_rfl : _ = val (bif (j : Nat).blt o.length then some (.pointer (some ⟨B, 0 + j * 1, none⟩)) else none) H2).trans (by rw [show (j : Nat).blt o.length = true from (by rw [blt_dec]; simp only [decide_eq_true_eq]; omega)]; rfl)) ?_
      refine cf_val 120 (.int .i64 x) H2 (by kernel_rfl) ((by kernel_rfl : _ = val (aload T2 3 (.pointer (some ⟨B, 0 + j * 1, none⟩)) H2) H2).trans (val_of ((aload_at gH2B).trans (aloadC_cellB (n := 1) (by kernel_rfl) (by kernel_rfl) cx)))) ?_
      refine cf_go 2 ?_
      refine cf_see 122 (.bool false) (see_bool (by kernel_rfl) ((decide_eq_false (by omega)) : ((decide ((x : Int) ≥ ((c.length : Nat) : Int)))) = false)) ?_
      refine cf_go 10 ?_
      refine cf_see 110 (.int .i64 ((j + 1 : Nat) : Int)) (see_int (x := (IntKind.i64.wrap (((j : Nat) : Int) + 1))) (by kernel_rfl) (w64 (by omega) (by omega) (by omega))) ?_
      refine cf_go 2 ?_
      refine cf_inv Rr2 (by kernel_rfl) (hRr2 _ ⟨o.length - (j + 1), by omega, j + 1, H2, rfl, by omega, gP2, gTB, by omega, by omega, by omega, (show Up H.n H H2 from ⟨by omega, fun b hb => by rw [uH2.get _ (by omega)]⟩), ⟨(by kernel_rfl), (by kernel_rfl), (by kernel_rfl), (by kernel_rfl), (by kernel_rfl), (by kernel_rfl), (by kernel_rfl), (by kernel_rfl), True.intro⟩, (by kernel_rfl)⟩)
    · skip
      have hje : j = o.length := by omega
      rcases hfl with rfl | hfl
      · skip
        refine cf_go 7 ?_
        refine cf_see 108 (.bool false) (see_bool (by kernel_rfl) ((decide_eq_false (by omega)) : ((decide (((j : Nat) : Int) < ((o.length : Nat) : Int)))) = false)) ?_
        refine cf_go 29 ?_
        refine cf_val 104 (.slice none 0 0) H2 (by kernel_rfl) ((by kernel_rfl : _ = val (aload T2 22 (.pointer (some ⟨TB, 1, none⟩)) H2) H2).trans (val_of ((aload_at gTB).trans (by kernel_rfl)))) ?_
        refine cf_go 9 ?_
        refine cf_go 38 ?_
        refine cf_val 126 (.int .i64 (-1)) H2 (by kernel_rfl) ((by kernel_rfl : _ = val (aload T2 3 (.pointer (some ⟨H.n, 7, none⟩)) H2) H2).trans (val_of ((aload_at gP2).trans (by kernel_rfl)))) ?_
        refine cf_go 3 ?_
        refine cf_val 130 (.int .i64 (-1)) H2 (by kernel_rfl) ((by kernel_rfl : _ = val (aload T2 3 (.pointer (some ⟨H.n, 7, none⟩)) H2) H2).trans (val_of ((aload_at gP2).trans (by kernel_rfl)))) ?_
        refine cf_go 2 ?_
        refine cf_see 132 (.bool true) (see_bool (by kernel_rfl) ((decide_eq_true (by omega)) : ((decide (((-1) : Int) < ((c.length : Nat) : Int)))) = true)) ?_
        refine cf_go 3 ?_
        refine cf_val 136 (.int .i64 (-1)) H2 (by kernel_rfl) ((by kernel_rfl : _ = val (aload T2 3 (.pointer (some ⟨H.n, 9, none⟩)) H2) H2).trans (val_of ((aload_at gP2).trans (by kernel_rfl)))) ?_
        refine cf_go 4 ?_
        refine cf_val 141 (.int .i64 (-1)) H2 (by kernel_rfl) ((by kernel_rfl : _ = val (aload T2 3 (.pointer (some ⟨H.n, 9, none⟩)) H2) H2).trans (val_of ((aload_at gP2).trans (by kernel_rfl)))) ?_
        refine cf_go 2 ?_
        refine cf_see 143 (.bool true) (see_bool (by kernel_rfl) ((decide_eq_true (by omega)) : ((decide (((-1) : Int) < ((c.length : Nat) : Int)))) = true)) ?_
        refine cf_go 5 ?_
        refine cf_end (.bool true) H2 (by kernel_rfl) (by kernel_rfl) (by kernel_rfl) ?_
        exact ⟨(by kernel_rfl), (show Up H.n H H2 from ⟨by omega, fun b hb => by rw [uH2.get _ (by omega)]⟩)⟩
      · skip
        refine cf_go 7 ?_
        refine cf_see 108 (.bool false) (see_bool (by kernel_rfl) ((decide_eq_false (by omega)) : ((decide (((j : Nat) : Int) < ((o.length : Nat) : Int)))) = false)) ?_
        refine cf_go 29 ?_
        refine cf_val 104 (.slice none 0 0) H2 (by kernel_rfl) ((by kernel_rfl : _ = val (aload T2 22 (.pointer (some ⟨TB, 1, none⟩)) H2) H2).trans (val_of ((aload_at gTB).trans (by kernel_rfl)))) ?_
        refine cf_go 9 ?_
        refine cf_go 38 ?_
        refine cf_val 126 (.int .i64 fl) H2 (by kernel_rfl) ((by kernel_rfl : _ = val (aload T2 3 (.pointer (some ⟨H.n, 7, none⟩)) H2) H2).trans (val_of ((aload_at gP2).trans (by kernel_rfl)))) ?_
        refine cf_go 1 ?_
        refine cf_see 127 (.bool true) (see_bool (by kernel_rfl) ((decide_eq_true (by omega)) : ((decide ((fl : Int) ≥ (-1)))) = true)) ?_
        refine cf_go 2 ?_
        refine cf_val 130 (.int .i64 fl) H2 (by kernel_rfl) ((by kernel_rfl : _ = val (aload T2 3 (.pointer (some ⟨H.n, 7, none⟩)) H2) H2).trans (val_of ((aload_at gP2).trans (by kernel_rfl)))) ?_
        refine cf_go 2 ?_
        refine cf_see 132 (.bool true) (see_bool (by kernel_rfl) ((decide_eq_true (by omega)) : ((decide ((fl : Int) < ((c.length : Nat) : Int)))) = true)) ?_
        refine cf_go 3 ?_
        refine cf_val 136 (.int .i64 (-1)) H2 (by kernel_rfl) ((by kernel_rfl : _ = val (aload T2 3 (.pointer (some ⟨H.n, 9, none⟩)) H2) H2).trans (val_of ((aload_at gP2).trans (by kernel_rfl)))) ?_
        refine cf_go 4 ?_
        refine cf_val 141 (.int .i64 (-1)) H2 (by kernel_rfl) ((by kernel_rfl : _ = val (aload T2 3 (.pointer (some ⟨H.n, 9, none⟩)) H2) H2).trans (val_of ((aload_at gP2).trans (by kernel_rfl)))) ?_
        refine cf_go 2 ?_
        refine cf_see 143 (.bool true) (see_bool (by kernel_rfl) ((decide_eq_true (by omega)) : ((decide (((-1) : Int) < ((c.length : Nat) : Int)))) = true)) ?_
        refine cf_go 5 ?_
        refine cf_end (.bool true) H2 (by kernel_rfl) (by kernel_rfl) (by kernel_rfl) ?_
        exact ⟨(by kernel_rfl), (show Up H.n H H2 from ⟨by omega, fun b hb => by rw [uH2.get _ (by omega)]⟩)⟩
set_option maxHeartbeats 4000000 in
theorem rright_no {H : Heap} {c : List II} {o : List Int} {fl : Int} {pc po : Option Addr} {cc co lo : Nat} {vs : Nat} (hok : PgOk c o fl) (hgc : Gr H lo 50 5 (.slice pc c.length cc) c.length (iis c)) (hgo : Gr H lo 3 1 (.slice po o.length co) o.length (o.map (Value.int .i64))) (hvs : vs = c.length + 1) : ACall Try.prog T2 18 #[.agg #[(.slice pc c.length cc), .int .i64 0, .int .i64 0, .int .i64 0, .int .i64 0, (.slice po o.length co), .slice none 0 0, .int .i64 fl, .int .u32 0, .int .i64 (-1), .int .i64 0, .int .u32 0, .int .i64 1, .int .i64 ((vs : Nat) : Int)]] H fun r H' => r = .bool false ∧ Up H.n H H' := by
  have hlen := hok.len
  have hol := hok.ol
  have hfl := hok.fl_
  refine acall_cf 145 (initTm 0 #[.agg #[(.slice pc c.length cc), .int .i64 0, .int .i64 0, .int .i64 0, .int .i64 0, (.slice po o.length co), .slice none 0 0, .int .i64 fl, .int .u32 0, .int .i64 (-1), .int .i64 0, .int .u32 0, .int .i64 1, .int .i64 ((vs : Nat) : Int)]]) rfl f18_fn f18_body rfl rfl ?_
  refine cf_go 2 ?_
  obtain ⟨H1_, hH1_⟩ : ∃ x : Heap, x = H.push ⟨[(.slice pc c.length cc), .int .i64 0, .int .i64 0, .int .i64 0, .int .i64 0, (.slice po o.length co), .slice none 0 0, .int .i64 fl, .int .u32 0, .int .i64 (-1), .int .i64 0, .int .u32 0, .int .i64 1, .int .i64 ((vs : Nat) : Int)], 29, false⟩ := ⟨_, rfl⟩
  have nH1_ : H1_.n = H.n + 1 := by rw [hH1_]; rfl
  refine cf_val 1 (.pointer (some ⟨H.n, 0, none⟩)) H1_ (by kernel_rfl) ((by kernel_rfl : _ = some (Res.val (.pointer (some ⟨H.n, 0, none⟩)), H.push ⟨[(.slice pc c.length cc), .int .i64 0, .int .i64 0, .int .i64 0, .int .i64 0, (.slice po o.length co), .slice none 0 0, .int .i64 fl, .int .u32 0, .int .i64 (-1), .int .i64 0, .int .u32 0, .int .i64 1, .int .i64 ((vs : Nat) : Int)], 29, false⟩)).trans (by rw [← hH1_])) ?_
  refine cf_go 6 ?_
  have gH1_H_n : H1_.get (H.n) = some ⟨[(.slice pc c.length cc), .int .i64 0, .int .i64 0, .int .i64 0, .int .i64 0, (.slice po o.length co), .slice none 0 0, .int .i64 fl, .int .u32 0, .int .i64 (-1), .int .i64 0, .int .u32 0, .int .i64 1, .int .i64 ((vs : Nat) : Int)], 29, false⟩ := by rw [hH1_]; exact (Heap.get_push _ _ _).trans (if_pos rfl)
  refine cf_val 11 ((.slice pc c.length cc)) H1_ (by kernel_rfl) ((by kernel_rfl : _ = val (aload T2 26 (.pointer (some ⟨H.n, 0, none⟩)) H1_) H1_).trans (val_of ((aload_at gH1_H_n).trans (by kernel_rfl)))) ?_
  refine cf_go 8 ?_
  refine cf_val 14 (.int .i64 ((vs : Nat) : Int)) H1_ (by kernel_rfl) ((by kernel_rfl : _ = val (aload T2 3 (.pointer (some ⟨H.n, 13, none⟩)) H1_) H1_).trans (val_of ((aload_at gH1_H_n).trans (by kernel_rfl)))) ?_
  refine cf_go 2 ?_
  refine cf_see 16 (.bool true) (see_bool (by kernel_rfl) ((bne_iff_ne.2 (by omega)) : ((((vs : Nat) : Int) != ((c.length : Nat) : Int))) = true)) ?_
  refine cf_go 44 ?_
  refine cf_end (.bool false) H1_ (by kernel_rfl) (by kernel_rfl) (by kernel_rfl) ?_
  exact ⟨(by kernel_rfl), (show Up H.n H H1_ from ⟨by omega, fun b hb => by rw [hH1_, Heap.get_push, if_neg (by omega)]⟩)⟩
end Lm
end Go.Proofs.Ytahikechkggbfaa
