/- Chapter 20: ref.Of. -/
import Derived.Test.YtahikechkggbfaaLf
import Derived.Test.YtahikechkggbfaaLd
namespace Go.Proofs.Ytahikechkggbfaa
open Go Go.Ev Go.RowKit
set_option linter.unusedVariables false
set_option linter.unusedSimpArgs false
set_option maxRecDepth 100000
namespace Lm
noncomputable def f19b : Code := Try.f19.body.getD .skip
theorem f19_body : Try.f19.body = some f19b := by kernel_rfl
theorem f19_fn : T2.fn 19 = some Try.f19 := by kernel_rfl
set_option maxHeartbeats 4000000 in
theorem rof_run {H : Heap} {c : List II} {o : List Int} {fl : Int} {pc po : Option Addr} {cc co lo : Nat} (hok : PgOk c o fl) (hgc : Gr H lo 50 5 (.slice pc c.length cc) c.length (iis c)) (hgo : Gr H lo 3 1 (.slice po o.length co) o.length (o.map (Value.int .i64))) : ACall Try.prog T2 19 #[.agg #[(.slice pc c.length cc), .int .i64 0, .int .i64 0, .int .i64 0, .int .i64 0, (.slice po o.length co), .slice none 0 0, .int .i64 fl, .int .u32 0, .int .i64 (-1), .int .i64 0, .int .u32 0, .int .i64 1, .int .i64 ((c.length : Nat) : Int)]] H fun r H' => ∃ pv cv, r = .slice pv c.length cv ∧ Gr H' H.n 41 3 (.slice pv c.length cv) c.length (ivs (ofL setat c o fl)) ∧ Up H.n H H' := by
  have hlen := hok.len
  have hol := hok.ol
  have hfl := hok.fl_
  refine acall_cf 95 (initTm 0 #[.agg #[(.slice pc c.length cc), .int .i64 0, .int .i64 0, .int .i64 0, .int .i64 0, (.slice po o.length co), .slice none 0 0, .int .i64 fl, .int .u32 0, .int .i64 (-1), .int .i64 0, .int .u32 0, .int .i64 1, .int .i64 ((c.length : Nat) : Int)]]) rfl f19_fn f19_body rfl rfl ?_
  refine cf_go 2 ?_
  obtain ⟨H1_, hH1_⟩ : ∃ x : Heap, x = H.push ⟨[(.slice pc c.length cc), .int .i64 0, .int .i64 0, .int .i64 0, .int .i64 0, (.slice po o.length co), .slice none 0 0, .int .i64 fl, .int .u32 0, .int .i64 (-1), .int .i64 0, .int .u32 0, .int .i64 1, .int .i64 ((c.length : Nat) : Int)], 29, false⟩ := ⟨_, rfl⟩
  have nH1_ : H1_.n = H.n + 1 := by rw [hH1_]; rfl
  refine cf_val 1 (.pointer (some ⟨H.n, 0, none⟩)) H1_ (by kernel_rfl) ((by kernel_rfl : _ = some (Res.val (.pointer (some ⟨H.n, 0, none⟩)), H.push ⟨[(.slice pc c.length cc), .int .i64 0, .int .i64 0, .int .i64 0, .int .i64 0, (.slice po o.length co), .slice none 0 0, .int .i64 fl, .int .u32 0, .int .i64 (-1), .int .i64 0, .int .u32 0, .int .i64 1, .int .i64 ((c.length : Nat) : Int)], 29, false⟩)).trans (by rw [← hH1_])) ?_
  refine cf_go 6 ?_
  have gH1_H_n : H1_.get (H.n) = some ⟨[(.slice pc c.length cc), .int .i64 0, .int .i64 0, .int .i64 0, .int .i64 0, (.slice po o.length co), .slice none 0 0, .int .i64 fl, .int .u32 0, .int .i64 (-1), .int .i64 0, .int .u32 0, .int .i64 1, .int .i64 ((c.length : Nat) : Int)], 29, false⟩ := by rw [hH1_]; exact (Heap.get_push _ _ _).trans (if_pos rfl)
  refine cf_val 11 (.agg #[(.slice pc c.length cc), .int .i64 0, .int .i64 0, .int .i64 0, .int .i64 0, (.slice po o.length co), .slice none 0 0, .int .i64 fl, .int .u32 0, .int .i64 (-1), .int .i64 0, .int .u32 0, .int .i64 1, .int .i64 ((c.length : Nat) : Int)]) H1_ (by kernel_rfl) ((by kernel_rfl : _ = val (aload T2 29 (.pointer (some ⟨H.n, 0, none⟩)) H1_) H1_).trans (val_of ((aload_at gH1_H_n).trans (by kernel_rfl)))) ?_
  refine cf_call 12 18 #[.agg #[(.slice pc c.length cc), .int .i64 0, .int .i64 0, .int .i64 0, .int .i64 0, (.slice po o.length co), .slice none 0 0, .int .i64 fl, .int .u32 0, .int .i64 (-1), .int .i64 0, .int .u32 0, .int .i64 1, .int .i64 ((c.length : Nat) : Int)]] H1_ (by kernel_rfl) (by kernel_rfl) (by kernel_rfl) (rright_ok hok (hgc.keep (lo' := 0) (by omega) (fun b hb1 hb2 => by rw [hH1_, Heap.get_push, if_neg (by omega)])) (hgo.keep (lo' := 0) (by omega) (fun b hb1 hb2 => by rw [hH1_, Heap.get_push, if_neg (by omega)])) rfl) ?_
  rintro _ H2_ ⟨rfl, uH2_⟩
  have nH2_ := uH2_.n
  refine cf_go 9 ?_
  have gH2_H_n : H2_.get (H.n) = some ⟨[(.slice pc c.length cc), .int .i64 0, .int .i64 0, .int .i64 0, .int .i64 0, (.slice po o.length co), .slice none 0 0, .int .i64 fl, .int .u32 0, .int .i64 (-1), .int .i64 0, .int .u32 0, .int .i64 1, .int .i64 ((c.length : Nat) : Int)], 29, false⟩ := by rw [uH2_.get _ (by omega)]; exact gH1_H_n
  refine cf_val 15 ((.slice pc c.length cc)) H2_ (by kernel_rfl) ((by kernel_rfl : _ = val (aload T2 26 (.pointer (some ⟨H.n, 0, none⟩)) H2_) H2_).trans (val_of ((aload_at gH2_H_n).trans (by kernel_rfl)))) ?_
  refine cf_go 16 ?_
  refine cf_loop 95 (cl (cl (cr (cl (cr (cr (cr (cr f19b)))))))) [.blk 0, .next (cr (cr (cr (cr (cr f19b)))))] (by kernel_rfl) (by kernel_rfl) (by kernel_rfl) (fun m9 s9 => ∃ (k : Nat) (ov : Value) (H1 : Heap), m9 = c.length - k ∧ k ≤ c.length ∧ H1.get H.n = some ⟨[(.slice pc c.length cc), .int .i64 0, .int .i64 0, .int .i64 0, .int .i64 0, (.slice po o.length co), .slice none 0 0, .int .i64 fl, .int .u32 0, .int .i64 (-1), .int .i64 0, .int .u32 0, .int .i64 1, .int .i64 ((c.length : Nat) : Int)], 29, false⟩ ∧ Gr H1 H.n 41 3 ov k (ivs (seedl k)) ∧ H.n < H1.n ∧ Up H.n H H1 ∧ Kn s9.tm [(1, .pointer (some ⟨H.n, 0, none⟩)), (2, .slice none 0 0), (3, .int .i64 ((c.length : Nat) : Int)), (4, ov), (5, .int .i64 ((k : Nat) : Int))] ∧ s9.H = H1) (c.length) ⟨0, .slice none 0 0, H2_, by omega, by omega, gH2_H_n, Gr.nil, by omega, (show Up H.n H H2_ from ⟨by omega, fun b hb => by rw [uH2_.get _ (by omega), hH1_, Heap.get_push, if_neg (by omega)]⟩), ⟨(by kernel_rfl), (by kernel_rfl), (by kernel_rfl), (by kernel_rfl), (by kernel_rfl), True.intro⟩, (by kernel_rfl)⟩ ?_
  rintro m9 s9 ⟨k, ov, H1, hm, hk, gP, hgv, bP1, uH1, hkn, hH⟩ Rr1 hRr1
  refine cf_kn [(1, .pointer (some ⟨H.n, 0, none⟩)), (2, .slice none 0 0), (3, .int .i64 ((c.length : Nat) : Int)), (4, ov), (5, .int .i64 ((k : Nat) : Int))] hkn hH fun tm => ?_
  have nH1 := uH1.n
  obtain ⟨pv, cv, rfl⟩ := Gr.sl hgv
  by_cases hlt : k < c.length
  · skip
    refine cf_go 6 ?_
    refine cf_see 19 (.bool true) (see_bool (by kernel_rfl) ((decide_eq_true (by omega)) : ((decide (((k : Nat) : Int) < ((c.length : Nat) : Int)))) = true)) ?_
    refine cf_go 13 ?_
    obtain ⟨H3_, hH3_⟩ : ∃ x : Heap, x = H1.push ⟨[Value.int .i64 ((k : Nat) : Int), .int .i64 ((k : Nat) : Int), .int .i64 ((k : Nat) : Int)], 41, false⟩ := ⟨_, rfl⟩
    have nH3_ : H3_.n = H1.n + 1 := by rw [hH3_]; rfl
    refine cf_val 27 (.slice (some ⟨H1.n, 0, none⟩) 1 1) H3_ (by kernel_rfl) ((by kernel_rfl : _ = some (Res.val (.slice (some ⟨H1.n, 0, none⟩) 1 1), H1.push ⟨[Value.int .i64 ((k : Nat) : Int), .int .i64 ((k : Nat) : Int), .int .i64 ((k : Nat) : Int)], 41, false⟩)).trans (by rw [← hH3_])) ?_
    have gH3_H1_n : H3_.get (H1.n) = some ⟨[Value.int .i64 ((k : Nat) : Int), .int .i64 ((k : Nat) : Int), .int .i64 ((k : Nat) : Int)], 41, false⟩ := by rw [hH3_]; exact (Heap.get_push _ _ _).trans (if_pos rfl)
    have gk3_ := hgv.keep (H' := H3_) (lo' := H.n) (by omega) (fun b hb1 hb2 => by rw [hH3_, Heap.get_push, if_neg (by omega)])
    have gH3_H_n : H3_.get (H.n) = some ⟨[(.slice pc c.length cc), .int .i64 0, .int .i64 0, .int .i64 0, .int .i64 0, (.slice po o.length co), .slice none 0 0, .int .i64 fl, .int .u32 0, .int .i64 (-1), .int .i64 0, .int .u32 0, .int .i64 1, .int .i64 ((c.length : Nat) : Int)], 29, false⟩ := by rw [hH3_, Heap.get_push, if_neg (by omega)]; exact gP
    obtain ⟨ovH4_, H4_, hapH4_, hgrH4_, uH4_, frH4_, nH4_, hvH4_⟩ := aappend_gr (T := T2) (st := 35) (xt := 35) (e := 41) (xd := .slice 41) (s0 := 2) (by_ := 23) (z := .agg #[.int .i64 0, .int .i64 0, .int .i64 0]) (by kernel_rfl) (by kernel_rfl) rfl (by kernel_rfl) (by kernel_rfl) (by kernel_rfl) (lo := H.n) gk3_ (x := .slice (some ⟨H1.n, 0, none⟩) 1 1) (asrc_blk (l := [Value.int .i64 ((k : Nat) : Int), .int .i64 ((k : Nat) : Int), .int .i64 ((k : Nat) : Int)]) gH3_H1_n rfl rfl) rfl rfl (by omega) (Gr.ne hgv (by omega)) (by omega) (by omega)
    subst hvH4_
    have gH4_H_nc : H4_.get (H.n) = some ⟨[(.slice pc c.length cc), .int .i64 0, .int .i64 0, .int .i64 0, .int .i64 0, (.slice po o.length co), .slice none 0 0, .int .i64 fl, .int .u32 0, .int .i64 (-1), .int .i64 0, .int .u32 0, .int .i64 1, .int .i64 ((c.length : Nat) : Int)], 29, false⟩ := by rw [frH4_ _ (by omega) (Gr.neT gk3_ gH3_H_n (by decide))]; exact gH3_H_n
    refine cf_val 28 (.slice (some ⟨H3_.n, 0, none⟩) (k + 1) (unk + 3)) H4_ (by kernel_rfl) ((by kernel_rfl : _ = val2 (aappend T2 35 35 (.slice pv k cv) (.slice (some ⟨H1.n, 0, none⟩) 1 1) H3_)).trans (by rw [hapH4_]; rfl)) ?_
    refine cf_go 7 ?_
    refine cf_see 21 (.int .i64 ((k + 1 : Nat) : Int)) (see_int (x := (IntKind.i64.wrap (((k : Nat) : Int) + 1))) (by kernel_rfl) (w64 (by omega) (by omega) (by omega))) ?_
    refine cf_go 2 ?_
    have hgr9 : Gr H4_ H.n 41 3 (.slice (some ⟨H3_.n, 0, none⟩) (k + 1) (unk + 3)) (k + 1) (ivs (seedl (k + 1))) := by rw [seedl_succ, ivs_snoc]; exact hgrH4_
    refine cf_inv Rr1 (by kernel_rfl) (hRr1 _ ⟨c.length - (k + 1), by omega, k + 1, _, H4_, rfl, by omega, gH4_H_nc, hgr9, by omega, (show Up H.n H H4_ from ⟨by omega, fun b hb => by rw [uH4_.get _ (by omega), hH3_, Heap.get_push, if_neg (by omega), uH1.get _ (by omega)]⟩), ⟨(by kernel_rfl), (by kernel_rfl), (by kernel_rfl), (by kernel_rfl), (by kernel_rfl), True.intro⟩, (by kernel_rfl)⟩)
  · skip
    obtain rfl : k = c.length := by omega
    refine cf_go 6 ?_
    refine cf_see 19 (.bool false) (see_bool (by kernel_rfl) ((decide_eq_false (by omega)) : ((decide (((c.length : Nat) : Int) < ((c.length : Nat) : Int)))) = false)) ?_
    refine cf_go 15 ?_
    refine cf_loop 95 (cl (cl (cr (cl (cr (cr (cr (cr (cr f19b))))))))) [.blk 2, .next (cr (cr (cr (cr (cr (cr f19b))))))] (by kernel_rfl) (by kernel_rfl) (by kernel_rfl) (fun m9 s9 => ∃ (k : Nat) (H2 : Heap), m9 = c.length - k ∧ k ≤ c.length ∧ H2.get H.n = some ⟨[(.slice pc c.length cc), .int .i64 0, .int .i64 0, .int .i64 0, .int .i64 0, (.slice po o.length co), .slice none 0 0, .int .i64 fl, .int .u32 0, .int .i64 (-1), .int .i64 0, .int .u32 0, .int .i64 1, .int .i64 ((c.length : Nat) : Int)], 29, false⟩ ∧ Gr H2 H.n 41 3 (.slice pv c.length cv) c.length (ivs (codeL setat c k)) ∧ H.n < H2.n ∧ Up H.n H H2 ∧ Kn s9.tm [(1, .pointer (some ⟨H.n, 0, none⟩)), (2, .slice none 0 0), (3, .int .i64 ((c.length : Nat) : Int)), (4, (.slice pv c.length cv)), (6, .int .i64 ((k : Nat) : Int))] ∧ s9.H = H2) (c.length) ⟨0, H1, by omega, by omega, gP, hgv, by omega, (show Up H.n H H1 from ⟨by omega, fun b hb => by rw [uH1.get _ (by omega)]⟩), ⟨(by kernel_rfl), (by kernel_rfl), (by kernel_rfl), (by kernel_rfl), (by kernel_rfl), True.intro⟩, (by kernel_rfl)⟩ ?_
    rintro m9 s9 ⟨k, H2, hm, hk, gP2, hgv2, bP2, uH2, hkn, hH⟩ Rr2 hRr2
    refine cf_kn [(1, .pointer (some ⟨H.n, 0, none⟩)), (2, .slice none 0 0), (3, .int .i64 ((c.length : Nat) : Int)), (4, (.slice pv c.length cv)), (6, .int .i64 ((k : Nat) : Int))] hkn hH fun tm => ?_
    have nH2 := uH2.n
    have hlB := codeL_len setat_len c k
    by_cases hlt : k < c.length
    · skip
      obtain ⟨ii, hx⟩ : ∃ x, c[k]? = some x := ⟨_, List.getElem?_eq_getElem hlt⟩
      rcases hok.code k ii hx with h0 | ⟨t, a, b, ht, ha1, ha2, hb1, hb2, h0⟩
      · subst h0
        have hv0 := hgv2
        have nvH_n := fun B c k h9 => Gr.neT hv0 gP2 (by decide) B c k h9
        rcases hv0.at_ with ⟨_, h0⟩ | ⟨B0, heB0, gB0, hB0, hB0l⟩
        · omega
        have nvH_n := nvH_n B0 _ _ heB0
        obtain ⟨rfl, rfl⟩ : pv = some ⟨B0, 0, none⟩ ∧ cv = unk + 3 := by injection heB0 with e1 _ e3; exact ⟨e1, e3⟩
        rcases hgc.at_ with ⟨_, h0⟩ | ⟨A, heA, gAA, hAA, _⟩
        · omega
        obtain ⟨rfl, rfl⟩ : pc = some ⟨A, 0, none⟩ ∧ cc = unk + 5 := by injection heA with e1 _ e3; exact ⟨e1, e3⟩
        refine cf_go 6 ?_
        refine cf_see 31 (.bool true) (see_bool (by kernel_rfl) ((decide_eq_true (by omega)) : ((decide (((k : Nat) : Int) < ((c.length : Nat) : Int)))) = true)) ?_
        refine cf_go 10 ?_
        refine cf_val 35 (.slice (some ⟨A, 0, none⟩) c.length (unk + 5)) H2 (by kernel_rfl) ((by kernel_rfl : _ = val (aload T2 26 (.pointer (some ⟨H.n, 0, none⟩)) H2) H2).trans (val_of ((aload_at gP2).trans (by kernel_rfl)))) ?_
        refine cf_go 1 ?_
        refine cf_val 37 (.pointer (some ⟨A, 0 + k * 5, none⟩)) H2 (by kernel_rfl) ((by kernel_rfl : _ = val (bif (k : Nat).blt c.length then some (.pointer (some ⟨A, 0 + k * 5, none⟩)) else none) H2).trans (by rw [show (k : Nat).blt c.length = true from (by rw [blt_dec]; simp only [decide_eq_true_eq]; omega)]; rfl)) ?_
        have gH2A : H2.get (A) = some ⟨(iis c), 50, false⟩ := by rw [uH2.get _ (by omega)]; exact gAA
        refine cf_val 38 (.agg #[.int .i64 0, .int .i64 ((k : Nat) : Int), .int .i64 0, .int .i64 0, .int .u32 ((k : Nat) : Int)]) H2 (by kernel_rfl) ((by kernel_rfl : _ = val (aload T2 50 (.pointer (some ⟨A, 0 + k * 5, none⟩)) H2) H2).trans (val_of ((aload_at gH2A).trans (aloadC_rowB (n := 5) (l := [Value.int .i64 0, .int .i64 ((k : Nat) : Int), .int .i64 0, .int .i64 0, .int .u32 ((k : Nat) : Int)]) (by kernel_rfl) (by kernel_rfl) (by kernel_rfl) (iis_at c k _ hx))))) ?_
        obtain ⟨H5_, hH5_⟩ : ∃ x : Heap, x = H2.push ⟨[Value.int .i64 0, .int .i64 0, .int .i64 0, .int .i64 0, .int .u32 0], 50, false⟩ := ⟨_, rfl⟩
        have nH5_ : H5_.n = H2.n + 1 := by rw [hH5_]; rfl
        refine cf_val 7 (.pointer (some ⟨H2.n, 0, none⟩)) H5_ (by kernel_rfl) ((by kernel_rfl : _ = some (Res.val (.pointer (some ⟨H2.n, 0, none⟩)), H2.push ⟨[Value.int .i64 0, .int .i64 0, .int .i64 0, .int .i64 0, .int .u32 0], 50, false⟩)).trans (by rw [← hH5_])) ?_
        have gH5_H2_n : H5_.get (H2.n) = some ⟨[Value.int .i64 0, .int .i64 0, .int .i64 0, .int .i64 0, .int .u32 0], 50, false⟩ := by rw [hH5_]; exact (Heap.get_push _ _ _).trans (if_pos rfl)
        obtain ⟨H6_, hH6_⟩ : ∃ x : Heap, x = H5_.put (H2.n) ⟨[Value.int .i64 0, .int .i64 ((k : Nat) : Int), .int .i64 0, .int .i64 0, .int .u32 ((k : Nat) : Int)], 50, false⟩ := ⟨_, rfl⟩
        have nH6_ : H6_.n = H5_.n := by rw [hH6_]; rfl
        refine cf_skip H6_ (by kernel_rfl) ((by kernel_rfl : _ = skp (astore T2 50 (.pointer (some ⟨H2.n, 0, none⟩)) (.agg #[.int .i64 0, .int .i64 ((k : Nat) : Int), .int .i64 0, .int .i64 0, .int .u32 ((k : Nat) : Int)]) H5_)).trans (by rw [astore_to gH5_H2_n (by kernel_rfl), ← hH6_]; rfl)) ?_
        refine cf_go 5 ?_
        have gH6_H2_n : H6_.get (H2.n) = some ⟨[Value.int .i64 0, .int .i64 ((k : Nat) : Int), .int .i64 0, .int .i64 0, .int .u32 ((k : Nat) : Int)], 50, false⟩ := by rw [hH6_]; exact (Heap.get_put _ _ _ _).trans (if_pos rfl)
        refine cf_val 40 (.int .i64 0) H6_ (by kernel_rfl) ((by kernel_rfl : _ = val (aload T2 3 (.pointer (some ⟨H2.n, 0, none⟩)) H6_) H6_).trans (val_of ((aload_at gH6_H2_n).trans (by kernel_rfl)))) ?_
        refine cf_go 3 ?_
        refine cf_val 44 (.int .i64 0) H6_ (by kernel_rfl) ((by kernel_rfl : _ = val (aload T2 3 (.pointer (some ⟨H2.n, 0, none⟩)) H6_) H6_).trans (val_of ((aload_at gH6_H2_n).trans (by kernel_rfl)))) ?_
        refine cf_go 11 ?_
        refine cf_see 33 (.int .i64 ((k + 1 : Nat) : Int)) (see_int (x := (IntKind.i64.wrap (((k : Nat) : Int) + 1))) (by kernel_rfl) (w64 (by omega) (by omega) (by omega))) ?_
        refine cf_go 2 ?_
        have gH6_H_n : H6_.get (H.n) = some ⟨[Value.slice (some ⟨A, 0, none⟩) c.length (unk + 5), .int .i64 0, .int .i64 0, .int .i64 0, .int .i64 0, (.slice po o.length co), .slice none 0 0, .int .i64 fl, .int .u32 0, .int .i64 (-1), .int .i64 0, .int .u32 0, .int .i64 1, .int .i64 ((c.length : Nat) : Int)], 29, false⟩ := by rw [hH6_, Heap.get_put, if_neg (by omega)]; rw [hH5_, Heap.get_push, if_neg (by omega)]; exact gP2
        have gH6_B0 : H6_.get (B0) = some ⟨(ivs (codeL setat c k)), 41, false⟩ := by rw [hH6_, Heap.get_put, if_neg (by omega)]; rw [hH5_, Heap.get_push, if_neg (by omega)]; exact gB0
        have hgr9 : Gr H6_ H.n 41 3 (.slice (some ⟨B0, 0, none⟩) c.length (unk + 3)) c.length (ivs (codeL setat c (k + 1))) := by rw [codeL_succ _ _ _ _ hx]; exact Gr.iv gH6_B0 hlB (by omega) hB0l
        refine cf_inv Rr2 (by kernel_rfl) (hRr2 _ ⟨c.length - (k + 1), by omega, k + 1, H6_, rfl, by omega, gH6_H_n, hgr9, by omega, (show Up H.n H H6_ from ⟨by omega, fun b hb => by rw [hH6_, Heap.get_put, if_neg (by omega), hH5_, Heap.get_push, if_neg (by omega), uH2.get _ (by omega)]⟩), ⟨(by kernel_rfl), (by kernel_rfl), (by kernel_rfl), (by kernel_rfl), (by kernel_rfl), True.intro⟩, (by kernel_rfl)⟩)
      · subst h0
        obtain ⟨a, rfl⟩ := Int.eq_ofNat_of_zero_le ha1
        obtain ⟨b, rfl⟩ := Int.eq_ofNat_of_zero_le hb1
        rcases ht with rfl | rfl
        · skip
          have hv0 := hgv2
          have nvH_n := fun B c k h9 => Gr.neT hv0 gP2 (by decide) B c k h9
          rcases hv0.at_ with ⟨_, h0⟩ | ⟨B0, heB0, gB0, hB0, hB0l⟩
          · omega
          have nvH_n := nvH_n B0 _ _ heB0
          obtain ⟨rfl, rfl⟩ : pv = some ⟨B0, 0, none⟩ ∧ cv = unk + 3 := by injection heB0 with e1 _ e3; exact ⟨e1, e3⟩
          rcases hgc.at_ with ⟨_, h0⟩ | ⟨A, heA, gAA, hAA, _⟩
          · omega
          obtain ⟨rfl, rfl⟩ : pc = some ⟨A, 0, none⟩ ∧ cc = unk + 5 := by injection heA with e1 _ e3; exact ⟨e1, e3⟩
          refine cf_go 6 ?_
          refine cf_see 31 (.bool true) (see_bool (by kernel_rfl) ((decide_eq_true (by omega)) : ((decide (((k : Nat) : Int) < ((c.length : Nat) : Int)))) = true)) ?_
          refine cf_go 10 ?_
          refine cf_val 35 (.slice (some ⟨A, 0, none⟩) c.length (unk + 5)) H2 (by kernel_rfl) ((by kernel_rfl : _ = val (aload T2 26 (.pointer (some ⟨H.n, 0, none⟩)) H2) H2).trans (val_of ((aload_at gP2).trans (by kernel_rfl)))) ?_
          refine cf_go 1 ?_
          refine cf_val 37 (.pointer (some ⟨A, 0 + k * 5, none⟩)) H2 (by kernel_rfl) ((by kernel_rfl : _ = val (bif (k : Nat).blt c.length then some (.pointer (some ⟨A, 0 + k * 5, none⟩)) else none) H2).trans (by rw [show (k : Nat).blt c.length = true from (by rw [blt_dec]; simp only [decide_eq_true_eq]; omega)]; rfl)) ?_
          have gH2A : H2.get (A) = some ⟨(iis c), 50, false⟩ := by rw [uH2.get _ (by omega)]; exact gAA
          refine cf_val 38 (.agg #[.int .i64 3, .int .i64 ((k : Nat) : Int), .int .i64 ((a : Nat) : Int), .int .i64 ((b : Nat) : Int), .int .u32 20]) H2 (by kernel_rfl) ((by kernel_rfl : _ = val (aload T2 50 (.pointer (some ⟨A, 0 + k * 5, none⟩)) H2) H2).trans (val_of ((aload_at gH2A).trans (aloadC_rowB (n := 5) (l := [Value.int .i64 3, .int .i64 ((k : Nat) : Int), .int .i64 ((a : Nat) : Int), .int .i64 ((b : Nat) : Int), .int .u32 20]) (by kernel_rfl) (by kernel_rfl) (by kernel_rfl) (iis_at c k _ hx))))) ?_
          obtain ⟨H7_, hH7_⟩ : ∃ x : Heap, x = H2.push ⟨[Value.int .i64 0, .int .i64 0, .int .i64 0, .int .i64 0, .int .u32 0], 50, false⟩ := ⟨_, rfl⟩
          have nH7_ : H7_.n = H2.n + 1 := by rw [hH7_]; rfl
          refine cf_val 7 (.pointer (some ⟨H2.n, 0, none⟩)) H7_ (by kernel_rfl) ((by kernel_rfl : _ = some (Res.val (.pointer (some ⟨H2.n, 0, none⟩)), H2.push ⟨[Value.int .i64 0, .int .i64 0, .int .i64 0, .int .i64 0, .int .u32 0], 50, false⟩)).trans (by rw [← hH7_])) ?_
          have gH7_H2_n : H7_.get (H2.n) = some ⟨[Value.int .i64 0, .int .i64 0, .int .i64 0, .int .i64 0, .int .u32 0], 50, false⟩ := by rw [hH7_]; exact (Heap.get_push _ _ _).trans (if_pos rfl)
          obtain ⟨H8_, hH8_⟩ : ∃ x : Heap, x = H7_.put (H2.n) ⟨[Value.int .i64 3, .int .i64 ((k : Nat) : Int), .int .i64 ((a : Nat) : Int), .int .i64 ((b : Nat) : Int), .int .u32 20], 50, false⟩ := ⟨_, rfl⟩
          have nH8_ : H8_.n = H7_.n := by rw [hH8_]; rfl
          refine cf_skip H8_ (by kernel_rfl) ((by kernel_rfl : _ = skp (astore T2 50 (.pointer (some ⟨H2.n, 0, none⟩)) (.agg #[.int .i64 3, .int .i64 ((k : Nat) : Int), .int .i64 ((a : Nat) : Int), .int .i64 ((b : Nat) : Int), .int .u32 20]) H7_)).trans (by rw [astore_to gH7_H2_n (by kernel_rfl), ← hH8_]; rfl)) ?_
          refine cf_go 5 ?_
          have gH8_H2_n : H8_.get (H2.n) = some ⟨[Value.int .i64 3, .int .i64 ((k : Nat) : Int), .int .i64 ((a : Nat) : Int), .int .i64 ((b : Nat) : Int), .int .u32 20], 50, false⟩ := by rw [hH8_]; exact (Heap.get_put _ _ _ _).trans (if_pos rfl)
          refine cf_val 40 (.int .i64 3) H8_ (by kernel_rfl) ((by kernel_rfl : _ = val (aload T2 3 (.pointer (some ⟨H2.n, 0, none⟩)) H8_) H8_).trans (val_of ((aload_at gH8_H2_n).trans (by kernel_rfl)))) ?_
          refine cf_go 13 ?_
          refine cf_val 49 (.int .i64 ((a : Nat) : Int)) H8_ (by kernel_rfl) ((by kernel_rfl : _ = val (aload T2 3 (.pointer (some ⟨H2.n, 2, none⟩)) H8_) H8_).trans (val_of ((aload_at gH8_H2_n).trans (by kernel_rfl)))) ?_
          refine cf_go 1 ?_
          refine cf_val 51 (.pointer (some ⟨B0, 0 + a * 3, none⟩)) H8_ (by kernel_rfl) ((by kernel_rfl : _ = val (bif (a : Nat).blt c.length then some (.pointer (some ⟨B0, 0 + a * 3, none⟩)) else none) H8_).trans (by rw [show (a : Nat).blt c.length = true from (by rw [blt_dec]; simp only [decide_eq_true_eq]; omega)]; rfl)) ?_
          obtain ⟨iv1, hiv1⟩ : ∃ i, (codeL setat c k)[a]? = some i := ⟨_, List.getElem?_eq_getElem (by rw [hlB]; omega)⟩
          have hw2 : (codeL setat c k).set a (iv1.1, iv1.2.1, ((k : Nat) : Int)) = setat (codeL setat c k) a ((k : Nat) : Int) := setat_eq ((k : Nat) : Int) hiv1
          have hl2 : (setat (codeL setat c k) a ((k : Nat) : Int)).length = c.length := by rw [setat_len]; exact hlB
          refine cf_go 1 ?_
          have gH8_B0 : H8_.get (B0) = some ⟨(ivs (codeL setat c k)), 41, false⟩ := by rw [hH8_, Heap.get_put, if_neg (by omega)]; rw [hH7_, Heap.get_push, if_neg (by omega)]; exact gB0
          obtain ⟨H9_, hH9_⟩ : ∃ x : Heap, x = H8_.put (B0) ⟨(ivs (setat (codeL setat c k) a ((k : Nat) : Int))), 41, false⟩ := ⟨_, rfl⟩
          have nH9_ : H9_.n = H8_.n := by rw [hH9_]; rfl
          refine cf_skip H9_ (by kernel_rfl) ((by kernel_rfl : _ = skp (astore T2 3 (.pointer (some ⟨B0, 0 + a * 3 + 2, none⟩)) (.int .i64 ((k : Nat) : Int)) H8_)).trans (by rw [astore_to gH8_B0 ((astoreC_one (by kernel_rfl) (by kernel_rfl) (by kernel_rfl) (by rw [ivs_len, hlB]; omega)).trans (by rw [ivs_set _ _ _ _ hiv1, hw2])), ← hH9_]; rfl)) ?_
          refine cf_go 5 ?_
          have gH9_H2_n : H9_.get (H2.n) = some ⟨[Value.int .i64 3, .int .i64 ((k : Nat) : Int), .int .i64 ((a : Nat) : Int), .int .i64 ((b : Nat) : Int), .int .u32 20], 50, false⟩ := by rw [hH9_, Heap.get_put, if_neg (by omega)]; exact gH8_H2_n
          refine cf_val 55 (.int .i64 ((b : Nat) : Int)) H9_ (by kernel_rfl) ((by kernel_rfl : _ = val (aload T2 3 (.pointer (some ⟨H2.n, 3, none⟩)) H9_) H9_).trans (val_of ((aload_at gH9_H2_n).trans (by kernel_rfl)))) ?_
          refine cf_go 1 ?_
          refine cf_val 57 (.pointer (some ⟨B0, 0 + b * 3, none⟩)) H9_ (by kernel_rfl) ((by kernel_rfl : _ = val (bif (b : Nat).blt c.length then some (.pointer (some ⟨B0, 0 + b * 3, none⟩)) else none) H9_).trans (by rw [show (b : Nat).blt c.length = true from (by rw [blt_dec]; simp only [decide_eq_true_eq]; omega)]; rfl)) ?_
          obtain ⟨iv3, hiv3⟩ : ∃ i, (setat (codeL setat c k) a ((k : Nat) : Int))[b]? = some i := ⟨_, List.getElem?_eq_getElem (by rw [hl2]; omega)⟩
          have hw4 : (setat (codeL setat c k) a ((k : Nat) : Int)).set b (iv3.1, iv3.2.1, ((k : Nat) : Int)) = setat (setat (codeL setat c k) a ((k : Nat) : Int)) b ((k : Nat) : Int) := setat_eq ((k : Nat) : Int) hiv3
          have hl4 : (setat (setat (codeL setat c k) a ((k : Nat) : Int)) b ((k : Nat) : Int)).length = c.length := by rw [setat_len]; exact hl2
          refine cf_go 1 ?_
          have gH9_B0 : H9_.get (B0) = some ⟨(ivs (setat (codeL setat c k) a ((k : Nat) : Int))), 41, false⟩ := by rw [hH9_]; exact (Heap.get_put _ _ _ _).trans (if_pos rfl)
          obtain ⟨H10_, hH10_⟩ : ∃ x : Heap, x = H9_.put (B0) ⟨(ivs (setat (setat (codeL setat c k) a ((k : Nat) : Int)) b ((k : Nat) : Int))), 41, false⟩ := ⟨_, rfl⟩
          have nH10_ : H10_.n = H9_.n := by rw [hH10_]; rfl
          refine cf_skip H10_ (by kernel_rfl) ((by kernel_rfl : _ = skp (astore T2 3 (.pointer (some ⟨B0, 0 + b * 3 + 2, none⟩)) (.int .i64 ((k : Nat) : Int)) H9_)).trans (by rw [astore_to gH9_B0 ((astoreC_one (by kernel_rfl) (by kernel_rfl) (by kernel_rfl) (by rw [ivs_len, hl2]; omega)).trans (by rw [ivs_set _ _ _ _ hiv3, hw4])), ← hH10_]; rfl)) ?_
          refine cf_go 6 ?_
          refine cf_see 33 (.int .i64 ((k + 1 : Nat) : Int)) (see_int (x := (IntKind.i64.wrap (((k : Nat) : Int) + 1))) (by kernel_rfl) (w64 (by omega) (by omega) (by omega))) ?_
          refine cf_go 2 ?_
          have gH10_H_n : H10_.get (H.n) = some ⟨[Value.slice (some ⟨A, 0, none⟩) c.length (unk + 5), .int .i64 0, .int .i64 0, .int .i64 0, .int .i64 0, (.slice po o.length co), .slice none 0 0, .int .i64 fl, .int .u32 0, .int .i64 (-1), .int .i64 0, .int .u32 0, .int .i64 1, .int .i64 ((c.length : Nat) : Int)], 29, false⟩ := by rw [hH10_, Heap.get_put, if_neg (by omega)]; rw [hH9_, Heap.get_put, if_neg (by omega)]; rw [hH8_, Heap.get_put, if_neg (by omega)]; rw [hH7_, Heap.get_push, if_neg (by omega)]; exact gP2
          have gH10_B0 : H10_.get (B0) = some ⟨(ivs (setat (setat (codeL setat c k) a ((k : Nat) : Int)) b ((k : Nat) : Int))), 41, false⟩ := by rw [hH10_]; exact (Heap.get_put _ _ _ _).trans (if_pos rfl)
          have hgr9 : Gr H10_ H.n 41 3 (.slice (some ⟨B0, 0, none⟩) c.length (unk + 3)) c.length (ivs (codeL setat c (k + 1))) := by rw [codeL_succ _ _ _ _ hx]; exact Gr.iv gH10_B0 hl4 (by omega) hB0l
          refine cf_inv Rr2 (by kernel_rfl) (hRr2 _ ⟨c.length - (k + 1), by omega, k + 1, H10_, rfl, by omega, gH10_H_n, hgr9, by omega, (show Up H.n H H10_ from ⟨by omega, fun b hb => by rw [hH10_, Heap.get_put, if_neg (by omega), hH9_, Heap.get_put, if_neg (by omega), hH8_, Heap.get_put, if_neg (by omega), hH7_, Heap.get_push, if_neg (by omega), uH2.get _ (by omega)]⟩), ⟨(by kernel_rfl), (by kernel_rfl), (by kernel_rfl), (by kernel_rfl), (by kernel_rfl), True.intro⟩, (by kernel_rfl)⟩)
        · skip
          have hv0 := hgv2
          have nvH_n := fun B c k h9 => Gr.neT hv0 gP2 (by decide) B c k h9
          rcases hv0.at_ with ⟨_, h0⟩ | ⟨B0, heB0, gB0, hB0, hB0l⟩
          · omega
          have nvH_n := nvH_n B0 _ _ heB0
          obtain ⟨rfl, rfl⟩ : pv = some ⟨B0, 0, none⟩ ∧ cv = unk + 3 := by injection heB0 with e1 _ e3; exact ⟨e1, e3⟩
          rcases hgc.at_ with ⟨_, h0⟩ | ⟨A, heA, gAA, hAA, _⟩
          · omega
          obtain ⟨rfl, rfl⟩ : pc = some ⟨A, 0, none⟩ ∧ cc = unk + 5 := by injection heA with e1 _ e3; exact ⟨e1, e3⟩
          refine cf_go 6 ?_
          refine cf_see 31 (.bool true) (see_bool (by kernel_rfl) ((decide_eq_true (by omega)) : ((decide (((k : Nat) : Int) < ((c.length : Nat) : Int)))) = true)) ?_
          refine cf_go 10 ?_
          refine cf_val 35 (.slice (some ⟨A, 0, none⟩) c.length (unk + 5)) H2 (by kernel_rfl) ((by kernel_rfl : _ = val (aload T2 26 (.pointer (some ⟨H.n, 0, none⟩)) H2) H2).trans (val_of ((aload_at gP2).trans (by kernel_rfl)))) ?_
          refine cf_go 1 ?_
          refine cf_val 37 (.pointer (some ⟨A, 0 + k * 5, none⟩)) H2 (by kernel_rfl) ((by kernel_rfl : _ = val (bif (k : Nat).blt c.length then some (.pointer (some ⟨A, 0 + k * 5, none⟩)) else none) H2).trans (by rw [show (k : Nat).blt c.length = true from (by rw [blt_dec]; simp only [decide_eq_true_eq]; omega)]; rfl)) ?_
          have gH2A : H2.get (A) = some ⟨(iis c), 50, false⟩ := by rw [uH2.get _ (by omega)]; exact gAA
          refine cf_val 38 (.agg #[.int .i64 4, .int .i64 ((k : Nat) : Int), .int .i64 ((a : Nat) : Int), .int .i64 ((b : Nat) : Int), .int .u32 20]) H2 (by kernel_rfl) ((by kernel_rfl : _ = val (aload T2 50 (.pointer (some ⟨A, 0 + k * 5, none⟩)) H2) H2).trans (val_of ((aload_at gH2A).trans (aloadC_rowB (n := 5) (l := [Value.int .i64 4, .int .i64 ((k : Nat) : Int), .int .i64 ((a : Nat) : Int), .int .i64 ((b : Nat) : Int), .int .u32 20]) (by kernel_rfl) (by kernel_rfl) (by kernel_rfl) (iis_at c k _ hx))))) ?_
          obtain ⟨H11_, hH11_⟩ : ∃ x : Heap, x = H2.push ⟨[Value.int .i64 0, .int .i64 0, .int .i64 0, .int .i64 0, .int .u32 0], 50, false⟩ := ⟨_, rfl⟩
          have nH11_ : H11_.n = H2.n + 1 := by rw [hH11_]; rfl
          refine cf_val 7 (.pointer (some ⟨H2.n, 0, none⟩)) H11_ (by kernel_rfl) ((by kernel_rfl : _ = some (Res.val (.pointer (some ⟨H2.n, 0, none⟩)), H2.push ⟨[Value.int .i64 0, .int .i64 0, .int .i64 0, .int .i64 0, .int .u32 0], 50, false⟩)).trans (by rw [← hH11_])) ?_
          have gH11_H2_n : H11_.get (H2.n) = some ⟨[Value.int .i64 0, .int .i64 0, .int .i64 0, .int .i64 0, .int .u32 0], 50, false⟩ := by rw [hH11_]; exact (Heap.get_push _ _ _).trans (if_pos rfl)
          obtain ⟨H12_, hH12_⟩ : ∃ x : Heap, x = H11_.put (H2.n) ⟨[Value.int .i64 4, .int .i64 ((k : Nat) : Int), .int .i64 ((a : Nat) : Int), .int .i64 ((b : Nat) : Int), .int .u32 20], 50, false⟩ := ⟨_, rfl⟩
          have nH12_ : H12_.n = H11_.n := by rw [hH12_]; rfl
          refine cf_skip H12_ (by kernel_rfl) ((by kernel_rfl : _ = skp (astore T2 50 (.pointer (some ⟨H2.n, 0, none⟩)) (.agg #[.int .i64 4, .int .i64 ((k : Nat) : Int), .int .i64 ((a : Nat) : Int), .int .i64 ((b : Nat) : Int), .int .u32 20]) H11_)).trans (by rw [astore_to gH11_H2_n (by kernel_rfl), ← hH12_]; rfl)) ?_
          refine cf_go 5 ?_
          have gH12_H2_n : H12_.get (H2.n) = some ⟨[Value.int .i64 4, .int .i64 ((k : Nat) : Int), .int .i64 ((a : Nat) : Int), .int .i64 ((b : Nat) : Int), .int .u32 20], 50, false⟩ := by rw [hH12_]; exact (Heap.get_put _ _ _ _).trans (if_pos rfl)
          refine cf_val 40 (.int .i64 4) H12_ (by kernel_rfl) ((by kernel_rfl : _ = val (aload T2 3 (.pointer (some ⟨H2.n, 0, none⟩)) H12_) H12_).trans (val_of ((aload_at gH12_H2_n).trans (by kernel_rfl)))) ?_
          refine cf_go 3 ?_
          refine cf_val 44 (.int .i64 4) H12_ (by kernel_rfl) ((by kernel_rfl : _ = val (aload T2 3 (.pointer (some ⟨H2.n, 0, none⟩)) H12_) H12_).trans (val_of ((aload_at gH12_H2_n).trans (by kernel_rfl)))) ?_
          refine cf_go 9 ?_
          refine cf_val 49 (.int .i64 ((a : Nat) : Int)) H12_ (by kernel_rfl) ((by kernel_rfl : _ = val (aload T2 3 (.pointer (some ⟨H2.n, 2, none⟩)) H12_) H12_).trans (val_of ((aload_at gH12_H2_n).trans (by kernel_rfl)))) ?_
          refine cf_go 1 ?_
          refine cf_val 51 (.pointer (some ⟨B0, 0 + a * 3, none⟩)) H12_ (by kernel_rfl) ((by kernel_rfl : _ = val (bif (a : Nat).blt c.length then some (.pointer (some ⟨B0, 0 + a * 3, none⟩)) else none) H12_).trans (by rw [show (a : Nat).blt c.length = true from (by rw [blt_dec]; simp only [decide_eq_true_eq]; omega)]; rfl)) ?_
          obtain ⟨iv5, hiv5⟩ : ∃ i, (codeL setat c k)[a]? = some i := ⟨_, List.getElem?_eq_getElem (by rw [hlB]; omega)⟩
          have hw6 : (codeL setat c k).set a (iv5.1, iv5.2.1, ((k : Nat) : Int)) = setat (codeL setat c k) a ((k : Nat) : Int) := setat_eq ((k : Nat) : Int) hiv5
          have hl6 : (setat (codeL setat c k) a ((k : Nat) : Int)).length = c.length := by rw [setat_len]; exact hlB
          refine cf_go 1 ?_
          have gH12_B0 : H12_.get (B0) = some ⟨(ivs (codeL setat c k)), 41, false⟩ := by rw [hH12_, Heap.get_put, if_neg (by omega)]; rw [hH11_, Heap.get_push, if_neg (by omega)]; exact gB0
          obtain ⟨H13_, hH13_⟩ : ∃ x : Heap, x = H12_.put (B0) ⟨(ivs (setat (codeL setat c k) a ((k : Nat) : Int))), 41, false⟩ := ⟨_, rfl⟩
          have nH13_ : H13_.n = H12_.n := by rw [hH13_]; rfl
          refine cf_skip H13_ (by kernel_rfl) ((by kernel_rfl : _ = skp (astore T2 3 (.pointer (some ⟨B0, 0 + a * 3 + 2, none⟩)) (.int .i64 ((k : Nat) : Int)) H12_)).trans (by rw [astore_to gH12_B0 ((astoreC_one (by kernel_rfl) (by kernel_rfl) (by kernel_rfl) (by rw [ivs_len, hlB]; omega)).trans (by rw [ivs_set _ _ _ _ hiv5, hw6])), ← hH13_]; rfl)) ?_
          refine cf_go 5 ?_
          have gH13_H2_n : H13_.get (H2.n) = some ⟨[Value.int .i64 4, .int .i64 ((k : Nat) : Int), .int .i64 ((a : Nat) : Int), .int .i64 ((b : Nat) : Int), .int .u32 20], 50, false⟩ := by rw [hH13_, Heap.get_put, if_neg (by omega)]; exact gH12_H2_n
          refine cf_val 55 (.int .i64 ((b : Nat) : Int)) H13_ (by kernel_rfl) ((by kernel_rfl : _ = val (aload T2 3 (.pointer (some ⟨H2.n, 3, none⟩)) H13_) H13_).trans (val_of ((aload_at gH13_H2_n).trans (by kernel_rfl)))) ?_
          refine cf_go 1 ?_
          refine cf_val 57 (.pointer (some ⟨B0, 0 + b * 3, none⟩)) H13_ (by kernel_rfl) ((by kernel_rfl : _ = val (bif (b : Nat).blt c.length then some (.pointer (some ⟨B0, 0 + b * 3, none⟩)) else none) H13_).trans (by rw [show (b : Nat).blt c.length = true from (by rw [blt_dec]; simp only [decide_eq_true_eq]; omega)]; rfl)) ?_
          obtain ⟨iv7, hiv7⟩ : ∃ i, (setat (codeL setat c k) a ((k : Nat) : Int))[b]? = some i := ⟨_, List.getElem?_eq_getElem (by rw [hl6]; omega)⟩
          have hw8 : (setat (codeL setat c k) a ((k : Nat) : Int)).set b (iv7.1, iv7.2.1, ((k : Nat) : Int)) = setat (setat (codeL setat c k) a ((k : Nat) : Int)) b ((k : Nat) : Int) := setat_eq ((k : Nat) : Int) hiv7
          have hl8 : (setat (setat (codeL setat c k) a ((k : Nat) : Int)) b ((k : Nat) : Int)).length = c.length := by rw [setat_len]; exact hl6
          refine cf_go 1 ?_
          have gH13_B0 : H13_.get (B0) = some ⟨(ivs (setat (codeL setat c k) a ((k : Nat) : Int))), 41, false⟩ := by rw [hH13_]; exact (Heap.get_put _ _ _ _).trans (if_pos rfl)
          obtain ⟨H14_, hH14_⟩ : ∃ x : Heap, x = H13_.put (B0) ⟨(ivs (setat (setat (codeL setat c k) a ((k : Nat) : Int)) b ((k : Nat) : Int))), 41, false⟩ := ⟨_, rfl⟩
          have nH14_ : H14_.n = H13_.n := by rw [hH14_]; rfl
          refine cf_skip H14_ (by kernel_rfl) ((by kernel_rfl : _ = skp (astore T2 3 (.pointer (some ⟨B0, 0 + b * 3 + 2, none⟩)) (.int .i64 ((k : Nat) : Int)) H13_)).trans (by rw [astore_to gH13_B0 ((astoreC_one (by kernel_rfl) (by kernel_rfl) (by kernel_rfl) (by rw [ivs_len, hl6]; omega)).trans (by rw [ivs_set _ _ _ _ hiv7, hw8])), ← hH14_]; rfl)) ?_
          refine cf_go 6 ?_
          refine cf_see 33 (.int .i64 ((k + 1 : Nat) : Int)) (see_int (x := (IntKind.i64.wrap (((k : Nat) : Int) + 1))) (by kernel_rfl) (w64 (by omega) (by omega) (by omega))) ?_
          refine cf_go 2 ?_
          have gH14_H_n : H14_.get (H.n) = some ⟨[Value.slice (some ⟨A, 0, none⟩) c.length (unk + 5), .int .i64 0, .int .i64 0, .int .i64 0, .int .i64 0, (.slice po o.length co), .slice none 0 0, .int .i64 fl, .int .u32 0, .int .i64 (-1), .int .i64 0, .int .u32 0, .int .i64 1, .int .i64 ((c.length : Nat) : Int)], 29, false⟩ := by rw [hH14_, Heap.get_put, if_neg (by omega)]; rw [hH13_, Heap.get_put, if_neg (by omega)]; rw [hH12_, Heap.get_put, if_neg (by omega)]; rw [hH11_, Heap.get_push, if_neg (by omega)]; exact gP2
          have gH14_B0 : H14_.get (B0) = some ⟨(ivs (setat (setat (codeL setat c k) a ((k : Nat) : Int)) b ((k : Nat) : Int))), 41, false⟩ := by rw [hH14_]; exact (Heap.get_put _ _ _ _).trans (if_pos rfl)
          have hgr9 : Gr H14_ H.n 41 3 (.slice (some ⟨B0, 0, none⟩) c.length (unk + 3)) c.length (ivs (codeL setat c (k + 1))) := by rw [codeL_succ _ _ _ _ hx]; exact Gr.iv gH14_B0 hl8 (by omega) hB0l
          refine cf_inv Rr2 (by kernel_rfl) (hRr2 _ ⟨c.length - (k + 1), by omega, k + 1, H14_, rfl, by omega, gH14_H_n, hgr9, by omega, (show Up H.n H H14_ from ⟨by omega, fun b hb => by rw [hH14_, Heap.get_put, if_neg (by omega), hH13_, Heap.get_put, if_neg (by omega), hH12_, Heap.get_put, if_neg (by omega), hH11_, Heap.get_push, if_neg (by omega), uH2.get _ (by omega)]⟩), ⟨(by kernel_rfl), (by kernel_rfl), (by kernel_rfl), (by kernel_rfl), (by kernel_rfl), True.intro⟩, (by kernel_rfl)⟩)
    · skip
      obtain rfl : k = c.length := by omega
      refine cf_go 6 ?_
      refine cf_see 31 (.bool false) (see_bool (by kernel_rfl) ((decide_eq_false (by omega)) : ((decide (((c.length : Nat) : Int) < ((c.length : Nat) : Int)))) = false)) ?_
      refine cf_go 12 ?_
      refine cf_val 60 ((.slice po o.length co)) H2 (by kernel_rfl) ((by kernel_rfl : _ = val (aload T2 22 (.pointer (some ⟨H.n, 5, none⟩)) H2) H2).trans (val_of ((aload_at gP2).trans (by kernel_rfl)))) ?_
      refine cf_go 1 ?_
      refine cf_val 62 (.slice none 0 0) H2 (by kernel_rfl) ((by kernel_rfl : _ = val (aload T2 22 (.pointer (some ⟨H.n, 6, none⟩)) H2) H2).trans (val_of ((aload_at gP2).trans (by kernel_rfl)))) ?_
      refine cf_go 1 ?_
      refine cf_val 64 (.int .i64 fl) H2 (by kernel_rfl) ((by kernel_rfl : _ = val (aload T2 3 (.pointer (some ⟨H.n, 7, none⟩)) H2) H2).trans (val_of ((aload_at gP2).trans (by kernel_rfl)))) ?_
      refine cf_go 1 ?_
      refine cf_val 66 (.int .i64 (-1)) H2 (by kernel_rfl) ((by kernel_rfl : _ = val (aload T2 3 (.pointer (some ⟨H.n, 9, none⟩)) H2) H2).trans (val_of ((aload_at gP2).trans (by kernel_rfl)))) ?_
      obtain ⟨H15_, hH15_⟩ : ∃ x : Heap, x = H2.push ⟨[Value.int .i64 fl, .int .i64 (-1)], 3, false⟩ := ⟨_, rfl⟩
      have nH15_ : H15_.n = H2.n + 1 := by rw [hH15_]; rfl
      refine cf_val 67 (.slice (some ⟨H2.n, 0, none⟩) 2 2) H15_ (by kernel_rfl) ((by kernel_rfl : _ = some (Res.val (.slice (some ⟨H2.n, 0, none⟩) 2 2), H2.push ⟨[Value.int .i64 fl, .int .i64 (-1)], 3, false⟩)).trans (by rw [← hH15_])) ?_
      obtain ⟨H16_, hH16_⟩ : ∃ x : Heap, x = H15_.push ⟨[(.slice po o.length co), .slice none 0 0, .slice (some ⟨H2.n, 0, none⟩) 2 2], 22, false⟩ := ⟨_, rfl⟩
      have nH16_ : H16_.n = H15_.n + 1 := by rw [hH16_]; rfl
      refine cf_val 68 (.slice (some ⟨H15_.n, 0, none⟩) 3 3) H16_ (by kernel_rfl) ((by kernel_rfl : _ = some (Res.val (.slice (some ⟨H15_.n, 0, none⟩) 3 3), H15_.push ⟨[(.slice po o.length co), .slice none 0 0, .slice (some ⟨H2.n, 0, none⟩) 2 2], 22, false⟩)).trans (by rw [← hH16_])) ?_
      refine cf_go 20 ?_
      have gH16_H15__n : H16_.get (H15_.n) = some ⟨[(.slice po o.length co), .slice none 0 0, .slice (some ⟨H2.n, 0, none⟩) 2 2], 22, false⟩ := by rw [hH16_]; exact (Heap.get_push _ _ _).trans (if_pos rfl)
      refine cf_val 73 ((.slice po o.length co)) H16_ (by kernel_rfl) ((by kernel_rfl : _ = val (aload T2 22 (.pointer (some ⟨H15_.n, 0, none⟩)) H16_) H16_).trans (val_of ((aload_at gH16_H15__n).trans (by kernel_rfl)))) ?_
      refine cf_go 9 ?_
      have gH16_H_n : H16_.get (H.n) = some ⟨[(.slice pc c.length cc), .int .i64 0, .int .i64 0, .int .i64 0, .int .i64 0, (.slice po o.length co), .slice none 0 0, .int .i64 fl, .int .u32 0, .int .i64 (-1), .int .i64 0, .int .u32 0, .int .i64 1, .int .i64 ((c.length : Nat) : Int)], 29, false⟩ := by rw [hH16_, Heap.get_push, if_neg (by omega)]; rw [hH15_, Heap.get_push, if_neg (by omega)]; exact gP2
      have gH16_H2_n : H16_.get (H2.n) = some ⟨[Value.int .i64 fl, .int .i64 (-1)], 3, false⟩ := by rw [hH16_, Heap.get_push, if_neg (by omega)]; rw [hH15_]; exact (Heap.get_push _ _ _).trans (if_pos rfl)
      obtain ⟨TB, hTB⟩ : ∃ D, D = H15_.n := ⟨_, rfl⟩
      obtain ⟨FB, hFB⟩ : ∃ D, D = H2.n := ⟨_, rfl⟩
      rw [← hTB] at gH16_H15__n
      rw [← hFB] at gH16_H15__n gH16_H2_n
      refine cf_loop 95 (cl (cl (cr (cr (cl (cl (cr (cr (cl (cl (cr (cl (cr (cr (cr (cr (cr (cr f19b)))))))))))))))))) [.blk 6, .blk 5, .next (cr (cr (cr (cl (cl (cr (cl (cr (cr (cr (cr (cr (cr f19b))))))))))))), .loop (cl (cl (cr (cl (cr (cr (cr (cr (cr (cr f19b)))))))))), .blk 4, .next (cr (cr (cr (cr (cr (cr (cr f19b)))))))] (by kernel_rfl) (by kernel_rfl) (by kernel_rfl) (fun m9 s9 => ∃ (j : Nat) (H3 : Heap), m9 = o.length - j ∧ j ≤ o.length ∧ H3.get H.n = some ⟨[(.slice pc c.length cc), .int .i64 0, .int .i64 0, .int .i64 0, .int .i64 0, (.slice po o.length co), .slice none 0 0, .int .i64 fl, .int .u32 0, .int .i64 (-1), .int .i64 0, .int .u32 0, .int .i64 1, .int .i64 ((c.length : Nat) : Int)], 29, false⟩ ∧ H3.get TB = some ⟨[(.slice po o.length co), .slice none 0 0, .slice (some ⟨FB, 0, none⟩) 2 2], 22, false⟩ ∧ H3.get FB = some ⟨[Value.int .i64 fl, .int .i64 (-1)], 3, false⟩ ∧ Gr H3 H.n 41 3 (.slice pv c.length cv) c.length (ivs (outL setat c.length (codeL setat c c.length) (o.take j))) ∧ H.n < H3.n ∧ TB < H3.n ∧ FB < H3.n ∧ H.n < FB ∧ H.n < TB ∧ FB ≠ TB ∧ Up H.n H H3 ∧ Kn s9.tm [(1, .pointer (some ⟨H.n, 0, none⟩)), (2, .slice none 0 0), (3, .int .i64 ((c.length : Nat) : Int)), (4, (.slice pv c.length cv)), (68, .slice (some ⟨TB, 0, none⟩) 3 3), (69, .int .i64 3), (70, .int .i64 0), (9, (.slice po o.length co)), (10, .int .i64 ((j : Nat) : Int))] ∧ s9.H = H3) (o.length) ⟨0, H16_, by omega, by omega, gH16_H_n, gH16_H15__n, gH16_H2_n, (hgv2.keep (lo' := 0) (by omega) (fun b hb1 hb2 => by rw [hH16_, Heap.get_push, if_neg (by omega), hH15_, Heap.get_push, if_neg (by omega)])), by omega, by omega, by omega, by omega, by omega, by omega, (show Up H.n H H16_ from ⟨by omega, fun b hb => by rw [hH16_, Heap.get_push, if_neg (by omega), hH15_, Heap.get_push, if_neg (by omega), uH2.get _ (by omega)]⟩), ⟨(by kernel_rfl), (by kernel_rfl), (by kernel_rfl), (by kernel_rfl), (by rw [hTB]; kernel_rfl), (by kernel_rfl), (by kernel_rfl), (by kernel_rfl), (by kernel_rfl), True.intro⟩, (by kernel_rfl)⟩ ?_
      rintro m9 s9 ⟨j, H3, hm3, hj, gP3, gTB, gFB, hgv3, bP3, bTB, bFB, bXF, bXT, nFT, uH3, hkn, hH⟩ Rr3 hRr3
      refine cf_kn [(1, .pointer (some ⟨H.n, 0, none⟩)), (2, .slice none 0 0), (3, .int .i64 ((c.length : Nat) : Int)), (4, (.slice pv c.length cv)), (68, .slice (some ⟨TB, 0, none⟩) 3 3), (69, .int .i64 3), (70, .int .i64 0), (9, (.slice po o.length co)), (10, .int .i64 ((j : Nat) : Int))] hkn hH fun tm => ?_
      have nH3 := uH3.n
      have hlD : (outL setat c.length (codeL setat c c.length) (o.take j)).length = c.length := by rw [outL_len setat_len, codeL_len setat_len]
      by_cases hlt2 : j < o.length
      · skip
        obtain ⟨x, hx⟩ : ∃ x, o[j]? = some x := ⟨_, List.getElem?_eq_getElem hlt2⟩
        have hxo := hok.outs j x hx
        obtain ⟨xn, rfl⟩ := Int.eq_ofNat_of_zero_le hxo.1
        rcases hgo.at_ with ⟨_, h0⟩ | ⟨B, heB, gAB, hAB, _⟩
        · omega
        obtain ⟨rfl, rfl⟩ : po = some ⟨B, 0, none⟩ ∧ co = unk + 1 := by injection heB with e1 _ e3; exact ⟨e1, e3⟩
        have cx : (o.map (Value.int .i64))[0 + j * 1]? = some (.int .i64 ((xn : Nat) : Int)) := by rw [List.getElem?_map, show 0 + j * 1 = j by omega, hx]; rfl
        have hv0 := hgv3
        have nvH_n := fun B c k h9 => Gr.neT hv0 gP3 (by decide) B c k h9
        have nvTB := fun B c k h9 => Gr.neT hv0 gTB (by decide) B c k h9
        have nvFB := fun B c k h9 => Gr.neT hv0 gFB (by decide) B c k h9
        rcases hv0.at_ with ⟨_, h0⟩ | ⟨B0, heB0, gB0, hB0, hB0l⟩
        · omega
        have nvH_n := nvH_n B0 _ _ heB0
        have nvTB := nvTB B0 _ _ heB0
        have nvFB := nvFB B0 _ _ heB0
        obtain ⟨rfl, rfl⟩ : pv = some ⟨B0, 0, none⟩ ∧ cv = unk + 3 := by injection heB0 with e1 _ e3; exact ⟨e1, e3⟩
        refine cf_go 7 ?_
        refine cf_see 77 (.bool true) (see_bool (by kernel_rfl) ((decide_eq_true (by omega)) : ((decide (((j : Nat) : Int) < ((o.length : Nat) : Int)))) = true)) ?_
        refine cf_go 11 ?_
        refine cf_val 82 (.pointer (some ⟨B, 0 + j * 1, none⟩)) H3 (by kernel_rfl) ((by kernel_rfl : _ = val (bif (j : Nat).blt o.length then some (.pointer (some ⟨B, 0 + j * 1, none⟩)) else none) H3).trans (by rw [show (j : Nat).blt o.length = true from (by rw [blt_dec]; simp only [decide_eq_true_eq]; omega)]; rfl)) ?_
        have gH3B : H3.get (B) = some ⟨(o.map (Value.int .i64)), 3, false⟩ := by rw [uH3.get _ (by omega)]; exact gAB
        refine cf_val 83 (.int .i64 ((xn : Nat) : Int)) H3 (by kernel_rfl) ((by kernel_rfl : _ = val (aload T2 3 (.pointer (some ⟨B, 0 + j * 1, none⟩)) H3) H3).trans (val_of ((aload_at gH3B).trans (aloadC_cellB (n := 1) (by kernel_rfl) (by kernel_rfl) cx)))) ?_
        refine cf_go 1 ?_
        refine cf_see 84 (.bool true) (see_bool (by kernel_rfl) ((decide_eq_true (by omega)) : ((decide (((xn : Nat) : Int) ≥ 0))) = true)) ?_
        refine cf_go 7 ?_
        refine cf_val 88 (.pointer (some ⟨B, 0 + j * 1, none⟩)) H3 (by kernel_rfl) ((by kernel_rfl : _ = val (bif (j : Nat).blt o.length then some (.pointer (some ⟨B, 0 + j * 1, none⟩)) else none) H3).trans (by rw [show (j : Nat).blt o.length = true from (by rw [blt_dec]; simp only [decide_eq_true_eq]; omega)]; rfl)) ?_
        refine cf_val 89 (.int .i64 ((xn : Nat) : Int)) H3 (by kernel_rfl) ((by kernel_rfl : _ = val (aload T2 3 (.pointer (some ⟨B, 0 + j * 1, none⟩)) H3) H3).trans (val_of ((aload_at gH3B).trans (aloadC_cellB (n := 1) (by kernel_rfl) (by kernel_rfl) cx)))) ?_
        refine cf_go 1 ?_
        refine cf_val 91 (.pointer (some ⟨B0, 0 + xn * 3, none⟩)) H3 (by kernel_rfl) ((by kernel_rfl : _ = val (bif (xn : Nat).blt c.length then some (.pointer (some ⟨B0, 0 + xn * 3, none⟩)) else none) H3).trans (by rw [show (xn : Nat).blt c.length = true from (by rw [blt_dec]; simp only [decide_eq_true_eq]; omega)]; rfl)) ?_
        obtain ⟨iv9, hiv9⟩ : ∃ i, (outL setat c.length (codeL setat c c.length) (o.take j))[xn]? = some i := ⟨_, List.getElem?_eq_getElem (by rw [hlD]; omega)⟩
        have hw10 : (outL setat c.length (codeL setat c c.length) (o.take j)).set xn (iv9.1, iv9.2.1, ((c.length : Nat) : Int)) = setat (outL setat c.length (codeL setat c c.length) (o.take j)) xn ((c.length : Nat) : Int) := setat_eq ((c.length : Nat) : Int) hiv9
        have hl10 : (setat (outL setat c.length (codeL setat c c.length) (o.take j)) xn ((c.length : Nat) : Int)).length = c.length := by rw [setat_len]; exact hlD
        refine cf_go 1 ?_
        obtain ⟨H17_, hH17_⟩ : ∃ x : Heap, x = H3.put (B0) ⟨(ivs (setat (outL setat c.length (codeL setat c c.length) (o.take j)) xn ((c.length : Nat) : Int))), 41, false⟩ := ⟨_, rfl⟩
        have nH17_ : H17_.n = H3.n := by rw [hH17_]; rfl
        refine cf_skip H17_ (by kernel_rfl) ((by kernel_rfl : _ = skp (astore T2 3 (.pointer (some ⟨B0, 0 + xn * 3 + 2, none⟩)) (.int .i64 ((c.length : Nat) : Int)) H3)).trans (by rw [astore_to gB0 ((astoreC_one (by kernel_rfl) (by kernel_rfl) (by kernel_rfl) (by rw [ivs_len, hlD]; omega)).trans (by rw [ivs_set _ _ _ _ hiv9, hw10])), ← hH17_]; rfl)) ?_
        refine cf_go 6 ?_
        refine cf_see 79 (.int .i64 ((j + 1 : Nat) : Int)) (see_int (x := (IntKind.i64.wrap (((j : Nat) : Int) + 1))) (by kernel_rfl) (w64 (by omega) (by omega) (by omega))) ?_
        refine cf_go 2 ?_
        have gH17_H_n : H17_.get (H.n) = some ⟨[(.slice pc c.length cc), .int .i64 0, .int .i64 0, .int .i64 0, .int .i64 0, .slice (some ⟨B, 0, none⟩) o.length (unk + 1), .slice none 0 0, .int .i64 fl, .int .u32 0, .int .i64 (-1), .int .i64 0, .int .u32 0, .int .i64 1, .int .i64 ((c.length : Nat) : Int)], 29, false⟩ := by rw [hH17_, Heap.get_put, if_neg (by omega)]; exact gP3
        have gH17_TB : H17_.get (TB) = some ⟨[Value.slice (some ⟨B, 0, none⟩) o.length (unk + 1), .slice none 0 0, .slice (some ⟨FB, 0, none⟩) 2 2], 22, false⟩ := by rw [hH17_, Heap.get_put, if_neg (by omega)]; exact gTB
        have gH17_FB : H17_.get (FB) = some ⟨[Value.int .i64 fl, .int .i64 (-1)], 3, false⟩ := by rw [hH17_, Heap.get_put, if_neg (by omega)]; exact gFB
        have gH17_B0 : H17_.get (B0) = some ⟨(ivs (setat (outL setat c.length (codeL setat c c.length) (o.take j)) xn ((c.length : Nat) : Int))), 41, false⟩ := by rw [hH17_]; exact (Heap.get_put _ _ _ _).trans (if_pos rfl)
        have hgr9 : Gr H17_ H.n 41 3 (.slice (some ⟨B0, 0, none⟩) c.length (unk + 3)) c.length (ivs (outL setat c.length (codeL setat c c.length) (o.take (j + 1)))) := by rw [outL_succ _ _ _ _ _ _ hx]; exact Gr.iv gH17_B0 hl10 (by omega) hB0l
        refine cf_inv Rr3 (by kernel_rfl) (hRr3 _ ⟨o.length - (j + 1), by omega, j + 1, H17_, rfl, by omega, gH17_H_n, gH17_TB, gH17_FB, hgr9, by omega, by omega, by omega, by omega, by omega, by omega, (show Up H.n H H17_ from ⟨by omega, fun b hb => by rw [hH17_, Heap.get_put, if_neg (by omega), uH3.get _ (by omega)]⟩), ⟨(by kernel_rfl), (by kernel_rfl), (by kernel_rfl), (by kernel_rfl), (by kernel_rfl), (by kernel_rfl), (by kernel_rfl), (by kernel_rfl), (by kernel_rfl), True.intro⟩, (by kernel_rfl)⟩)
      · skip
        obtain rfl : j = o.length := by omega
        rw [List.take_length] at hgv3 hlD
        rcases hfl with rfl | hfl
        · skip
          refine cf_go 7 ?_
          refine cf_see 77 (.bool false) (see_bool (by kernel_rfl) ((decide_eq_false (by omega)) : ((decide (((o.length : Nat) : Int) < ((o.length : Nat) : Int)))) = false)) ?_
          refine cf_go 29 ?_
          refine cf_val 73 (.slice none 0 0) H3 (by kernel_rfl) ((by kernel_rfl : _ = val (aload T2 22 (.pointer (some ⟨TB, 1, none⟩)) H3) H3).trans (val_of ((aload_at gTB).trans (by kernel_rfl)))) ?_
          refine cf_go 9 ?_
          refine cf_go 37 ?_
          refine cf_val 73 (.slice (some ⟨FB, 0, none⟩) 2 2) H3 (by kernel_rfl) ((by kernel_rfl : _ = val (aload T2 22 (.pointer (some ⟨TB, 2, none⟩)) H3) H3).trans (val_of ((aload_at gTB).trans (by kernel_rfl)))) ?_
          refine cf_go 9 ?_
          refine cf_go 20 ?_
          refine cf_val 83 (.int .i64 (-1)) H3 (by kernel_rfl) ((by kernel_rfl : _ = val (aload T2 3 (.pointer (some ⟨FB, 0, none⟩)) H3) H3).trans (val_of ((aload_at gFB).trans (by kernel_rfl)))) ?_
          refine cf_go 13 ?_
          refine cf_go 20 ?_
          refine cf_val 83 (.int .i64 (-1)) H3 (by kernel_rfl) ((by kernel_rfl : _ = val (aload T2 3 (.pointer (some ⟨FB, 1, none⟩)) H3) H3).trans (val_of ((aload_at gFB).trans (by kernel_rfl)))) ?_
          refine cf_go 13 ?_
          refine cf_go 42 ?_
          refine cf_end ((.slice pv c.length cv)) H3 (by kernel_rfl) (by kernel_rfl) (by kernel_rfl) ?_
          exact ⟨pv, cv, rfl, by unfold ofL; rw [if_neg (by omega)]; exact hgv3, (show Up H.n H H3 from ⟨by omega, fun b hb => by rw [uH3.get _ (by omega)]⟩)⟩
        · skip
          obtain ⟨fn, rfl⟩ := Int.eq_ofNat_of_zero_le hfl.1
          have hv0 := hgv3
          have nvH_n := fun B c k h9 => Gr.neT hv0 gP3 (by decide) B c k h9
          have nvTB := fun B c k h9 => Gr.neT hv0 gTB (by decide) B c k h9
          have nvFB := fun B c k h9 => Gr.neT hv0 gFB (by decide) B c k h9
          rcases hv0.at_ with ⟨_, h0⟩ | ⟨B0, heB0, gB0, hB0, hB0l⟩
          · omega
          have nvH_n := nvH_n B0 _ _ heB0
          have nvTB := nvTB B0 _ _ heB0
          have nvFB := nvFB B0 _ _ heB0
          obtain ⟨rfl, rfl⟩ : pv = some ⟨B0, 0, none⟩ ∧ cv = unk + 3 := by injection heB0 with e1 _ e3; exact ⟨e1, e3⟩
          refine cf_go 7 ?_
          refine cf_see 77 (.bool false) (see_bool (by kernel_rfl) ((decide_eq_false (by omega)) : ((decide (((o.length : Nat) : Int) < ((o.length : Nat) : Int)))) = false)) ?_
          refine cf_go 29 ?_
          refine cf_val 73 (.slice none 0 0) H3 (by kernel_rfl) ((by kernel_rfl : _ = val (aload T2 22 (.pointer (some ⟨TB, 1, none⟩)) H3) H3).trans (val_of ((aload_at gTB).trans (by kernel_rfl)))) ?_
          refine cf_go 9 ?_
          refine cf_go 37 ?_
          refine cf_val 73 (.slice (some ⟨FB, 0, none⟩) 2 2) H3 (by kernel_rfl) ((by kernel_rfl : _ = val (aload T2 22 (.pointer (some ⟨TB, 2, none⟩)) H3) H3).trans (val_of ((aload_at gTB).trans (by kernel_rfl)))) ?_
          refine cf_go 9 ?_
          refine cf_go 20 ?_
          refine cf_val 83 (.int .i64 ((fn : Nat) : Int)) H3 (by kernel_rfl) ((by kernel_rfl : _ = val (aload T2 3 (.pointer (some ⟨FB, 0, none⟩)) H3) H3).trans (val_of ((aload_at gFB).trans (by kernel_rfl)))) ?_
          refine cf_go 1 ?_
          refine cf_see 84 (.bool true) (see_bool (by kernel_rfl) ((decide_eq_true (by omega)) : ((decide (((fn : Nat) : Int) ≥ 0))) = true)) ?_
          refine cf_go 8 ?_
          refine cf_val 89 (.int .i64 ((fn : Nat) : Int)) H3 (by kernel_rfl) ((by kernel_rfl : _ = val (aload T2 3 (.pointer (some ⟨FB, 0, none⟩)) H3) H3).trans (val_of ((aload_at gFB).trans (by kernel_rfl)))) ?_
          refine cf_go 1 ?_
          refine cf_val 91 (.pointer (some ⟨B0, 0 + fn * 3, none⟩)) H3 (by kernel_rfl) ((by kernel_rfl : _ = val (bif (fn : Nat).blt c.length then some (.pointer (some ⟨B0, 0 + fn * 3, none⟩)) else none) H3).trans (by rw [show (fn : Nat).blt c.length = true from (by rw [blt_dec]; simp only [decide_eq_true_eq]; omega)]; rfl)) ?_
          obtain ⟨iv11, hiv11⟩ : ∃ i, (outL setat c.length (codeL setat c c.length) o)[fn]? = some i := ⟨_, List.getElem?_eq_getElem (by rw [hlD]; omega)⟩
          have hw12 : (outL setat c.length (codeL setat c c.length) o).set fn (iv11.1, iv11.2.1, ((c.length : Nat) : Int)) = setat (outL setat c.length (codeL setat c c.length) o) fn ((c.length : Nat) : Int) := setat_eq ((c.length : Nat) : Int) hiv11
          have hl12 : (setat (outL setat c.length (codeL setat c c.length) o) fn ((c.length : Nat) : Int)).length = c.length := by rw [setat_len]; exact hlD
          refine cf_go 1 ?_
          obtain ⟨H18_, hH18_⟩ : ∃ x : Heap, x = H3.put (B0) ⟨(ivs (setat (outL setat c.length (codeL setat c c.length) o) fn ((c.length : Nat) : Int))), 41, false⟩ := ⟨_, rfl⟩
          have nH18_ : H18_.n = H3.n := by rw [hH18_]; rfl
          refine cf_skip H18_ (by kernel_rfl) ((by kernel_rfl : _ = skp (astore T2 3 (.pointer (some ⟨B0, 0 + fn * 3 + 2, none⟩)) (.int .i64 ((c.length : Nat) : Int)) H3)).trans (by rw [astore_to gB0 ((astoreC_one (by kernel_rfl) (by kernel_rfl) (by kernel_rfl) (by rw [ivs_len, hlD]; omega)).trans (by rw [ivs_set _ _ _ _ hiv11, hw12])), ← hH18_]; rfl)) ?_
          refine cf_go 9 ?_
          refine cf_go 20 ?_
          have gH18_FB : H18_.get (FB) = some ⟨[Value.int .i64 ((fn : Nat) : Int), .int .i64 (-1)], 3, false⟩ := by rw [hH18_, Heap.get_put, if_neg (by omega)]; exact gFB
          refine cf_val 83 (.int .i64 (-1)) H18_ (by kernel_rfl) ((by kernel_rfl : _ = val (aload T2 3 (.pointer (some ⟨FB, 1, none⟩)) H18_) H18_).trans (val_of ((aload_at gH18_FB).trans (by kernel_rfl)))) ?_
          refine cf_go 13 ?_
          refine cf_go 42 ?_
          have gH18_B0 : H18_.get (B0) = some ⟨(ivs (setat (outL setat c.length (codeL setat c c.length) o) fn ((c.length : Nat) : Int))), 41, false⟩ := by rw [hH18_]; exact (Heap.get_put _ _ _ _).trans (if_pos rfl)
          refine cf_end (.slice (some ⟨B0, 0, none⟩) c.length (unk + 3)) H18_ (by kernel_rfl) (by kernel_rfl) (by kernel_rfl) ?_
          exact ⟨_, _, rfl, by unfold ofL; rw [if_pos (by omega)]; exact Gr.iv gH18_B0 hl12 (by omega) hB0l, (show Up H.n H H18_ from ⟨by omega, fun b hb => by rw [hH18_, Heap.get_put, if_neg (by omega), uH3.get _ (by omega)]⟩)⟩
end Lm
end Go.Proofs.Ytahikechkggbfaa
