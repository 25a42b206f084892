/- Chapter 20: live.Of. -/
import Derived.Test.YtahikechkggbfaaLe
namespace Go.Proofs.Ytahikechkggbfaa
open Go Go.Ev Go.RowKit
set_option linter.unusedVariables false
set_option linter.unusedSimpArgs false
set_option maxRecDepth 100000
namespace Lm
noncomputable def f10b : Code := Try.f10.body.getD .skip
theorem f10_body : Try.f10.body = some f10b := by kernel_rfl
theorem f10_fn : T2.fn 10 = some Try.f10 := by kernel_rfl
noncomputable def f21b : Code := Try.f21.body.getD .skip
theorem f21_body : Try.f21.body = some f21b := by kernel_rfl
theorem f21_fn : T2.fn 21 = some Try.f21 := by kernel_rfl
set_option maxHeartbeats 4000000 in
theorem of_run {H : Heap} {c : List II} {o : List Int} {fl : Int} {pc po : Option Addr} {cc co lo : Nat} (hok : PgOk c o fl) (hgc : Gr H lo 50 5 (.slice pc c.length cc) c.length (iis c)) (hgo : Gr H lo 3 1 (.slice po o.length co) o.length (o.map (Value.int .i64))) : ACall Try.prog T2 10 #[.agg #[(.slice pc c.length cc), .int .i64 0, .int .i64 0, .int .i64 0, .int .i64 0, (.slice po o.length co), .slice none 0 0, .int .i64 fl, .int .u32 0, .int .i64 (-1), .int .i64 0, .int .u32 0, .int .i64 1, .int .i64 ((c.length : Nat) : Int)]] H fun r H' => ∃ pv cv, r = .slice pv c.length cv ∧ Gr H' H.n 40 3 (.slice pv c.length cv) c.length (ivs (ofL maxat c o fl)) ∧ Up H.n H H' := by
  have hlen := hok.len
  have hol := hok.ol
  have hfl := hok.fl_
  refine acall_cf 86 (initTm 0 #[.agg #[(.slice pc c.length cc), .int .i64 0, .int .i64 0, .int .i64 0, .int .i64 0, (.slice po o.length co), .slice none 0 0, .int .i64 fl, .int .u32 0, .int .i64 (-1), .int .i64 0, .int .u32 0, .int .i64 1, .int .i64 ((c.length : Nat) : Int)]]) rfl f10_fn f10_body rfl rfl ?_
  refine cf_go 2 ?_
  obtain ⟨H1_, hH1_⟩ : ∃ x : Heap, x = H.push ⟨[(.slice pc c.length cc), .int .i64 0, .int .i64 0, .int .i64 0, .int .i64 0, (.slice po o.length co), .slice none 0 0, .int .i64 fl, .int .u32 0, .int .i64 (-1), .int .i64 0, .int .u32 0, .int .i64 1, .int .i64 ((c.length : Nat) : Int)], 29, false⟩ := ⟨_, rfl⟩
  have nH1_ : H1_.n = H.n + 1 := by rw [hH1_]; rfl
  refine cf_val 1 (.pointer (some ⟨H.n, 0, none⟩)) H1_ (by kernel_rfl) ((by kernel_rfl : _ = some (Res.val (.pointer (some ⟨H.n, 0, none⟩)), H.push ⟨[(.slice pc c.length cc), .int .i64 0, .int .i64 0, .int .i64 0, .int .i64 0, (.slice po o.length co), .slice none 0 0, .int .i64 fl, .int .u32 0, .int .i64 (-1), .int .i64 0, .int .u32 0, .int .i64 1, .int .i64 ((c.length : Nat) : Int)], 29, false⟩)).trans (by rw [← hH1_])) ?_
  refine cf_go 6 ?_
  have gH1_H_n : H1_.get (H.n) = some ⟨[(.slice pc c.length cc), .int .i64 0, .int .i64 0, .int .i64 0, .int .i64 0, (.slice po o.length co), .slice none 0 0, .int .i64 fl, .int .u32 0, .int .i64 (-1), .int .i64 0, .int .u32 0, .int .i64 1, .int .i64 ((c.length : Nat) : Int)], 29, false⟩ := by rw [hH1_]; exact (Heap.get_push _ _ _).trans (if_pos rfl)
  refine cf_val 12 (.agg #[(.slice pc c.length cc), .int .i64 0, .int .i64 0, .int .i64 0, .int .i64 0, (.slice po o.length co), .slice none 0 0, .int .i64 fl, .int .u32 0, .int .i64 (-1), .int .i64 0, .int .u32 0, .int .i64 1, .int .i64 ((c.length : Nat) : Int)]) H1_ (by kernel_rfl) ((by kernel_rfl : _ = val (aload T2 29 (.pointer (some ⟨H.n, 0, none⟩)) H1_) H1_).trans (val_of ((aload_at gH1_H_n).trans (by kernel_rfl)))) ?_
  refine cf_call 13 20 #[.agg #[(.slice pc c.length cc), .int .i64 0, .int .i64 0, .int .i64 0, .int .i64 0, (.slice po o.length co), .slice none 0 0, .int .i64 fl, .int .u32 0, .int .i64 (-1), .int .i64 0, .int .u32 0, .int .i64 1, .int .i64 ((c.length : Nat) : Int)]] H1_ (by kernel_rfl) (by kernel_rfl) (by kernel_rfl) (right_ok hok (hgc.keep (lo' := 0) (by omega) (fun b hb1 hb2 => by rw [hH1_, Heap.get_push, if_neg (by omega)])) (hgo.keep (lo' := 0) (by omega) (fun b hb1 hb2 => by rw [hH1_, Heap.get_push, if_neg (by omega)])) rfl) ?_
  rintro _ H2_ ⟨rfl, uH2_⟩
  have nH2_ := uH2_.n
  refine cf_go 8 ?_
  obtain ⟨H3_, hH3_⟩ : ∃ x : Heap, x = H2_.push ⟨[Value.slice none 0 0], 31, false⟩ := ⟨_, rfl⟩
  have nH3_ : H3_.n = H2_.n + 1 := by rw [hH3_]; rfl
  refine cf_val 3 (.pointer (some ⟨H2_.n, 0, none⟩)) H3_ (by kernel_rfl) ((by kernel_rfl : _ = some (Res.val (.pointer (some ⟨H2_.n, 0, none⟩)), H2_.push ⟨[Value.slice none 0 0], 31, false⟩)).trans (by rw [← hH3_])) ?_
  refine cf_go 6 ?_
  have gH3_H_n : H3_.get (H.n) = some ⟨[(.slice pc c.length cc), .int .i64 0, .int .i64 0, .int .i64 0, .int .i64 0, (.slice po o.length co), .slice none 0 0, .int .i64 fl, .int .u32 0, .int .i64 (-1), .int .i64 0, .int .u32 0, .int .i64 1, .int .i64 ((c.length : Nat) : Int)], 29, false⟩ := by rw [hH3_, Heap.get_push, if_neg (by omega)]; rw [uH2_.get _ (by omega)]; exact gH1_H_n
  refine cf_val 16 (.int .i64 ((c.length : Nat) : Int)) H3_ (by kernel_rfl) ((by kernel_rfl : _ = val (aload T2 3 (.pointer (some ⟨H.n, 13, none⟩)) H3_) H3_).trans (val_of ((aload_at gH3_H_n).trans (by kernel_rfl)))) ?_
  refine cf_go 4 ?_
  have gH3_H2__n : H3_.get (H2_.n) = some ⟨[Value.slice none 0 0], 31, false⟩ := by rw [hH3_]; exact (Heap.get_push _ _ _).trans (if_pos rfl)
  obtain ⟨X, hX⟩ : ∃ D, D = H2_.n := ⟨_, rfl⟩
  rw [← hX] at gH3_H2__n
  refine cf_loop 86 (cl (cl (cr (cl (cr (cr (cr f10b))))))) [.blk 0, .next (cr (cr (cr (cr f10b))))] (by kernel_rfl) (by kernel_rfl) (by kernel_rfl) (fun m9 s9 => ∃ (k : Nat) (ov : Value) (H1 : Heap), m9 = c.length - k ∧ k ≤ c.length ∧ H1.get H.n = some ⟨[(.slice pc c.length cc), .int .i64 0, .int .i64 0, .int .i64 0, .int .i64 0, (.slice po o.length co), .slice none 0 0, .int .i64 fl, .int .u32 0, .int .i64 (-1), .int .i64 0, .int .u32 0, .int .i64 1, .int .i64 ((c.length : Nat) : Int)], 29, false⟩ ∧ H1.get X = some ⟨[ov], 31, false⟩ ∧ Gr H1 H.n 40 3 ov k (ivs (seedl k)) ∧ H.n < X ∧ X < H1.n ∧ Up H.n H H1 ∧ Kn s9.tm [(1, .pointer (some ⟨H.n, 0, none⟩)), (2, .slice none 0 0), (3, .pointer (some ⟨X, 0, none⟩)), (16, .int .i64 ((c.length : Nat) : Int)), (17, .int .i64 ((k : Nat) : Int))] ∧ s9.H = H1) (c.length) ⟨0, .slice none 0 0, H3_, by omega, by omega, gH3_H_n, gH3_H2__n, Gr.nil, by omega, by omega, (show Up H.n H H3_ from ⟨by omega, fun b hb => by rw [hH3_, Heap.get_push, if_neg (by omega), uH2_.get _ (by omega), hH1_, Heap.get_push, if_neg (by omega)]⟩), ⟨(by kernel_rfl), (by kernel_rfl), (by rw [hX]; kernel_rfl), (by kernel_rfl), (by kernel_rfl), True.intro⟩, (by kernel_rfl)⟩ ?_
  rintro m9 s9 ⟨k, ov, H1, hm, hk, gP, gX, hgv, bX1, bX2, uH1, hkn, hH⟩ Rr1 hRr1
  refine cf_kn [(1, .pointer (some ⟨H.n, 0, none⟩)), (2, .slice none 0 0), (3, .pointer (some ⟨X, 0, none⟩)), (16, .int .i64 ((c.length : Nat) : Int)), (17, .int .i64 ((k : Nat) : Int))] hkn hH fun tm => ?_
  have nH1 := uH1.n
  obtain ⟨pv, cv, rfl⟩ := Gr.sl hgv
  by_cases hlt : k < c.length
  · skip
    refine cf_go 3 ?_
    refine cf_see 18 (.bool true) (see_bool (by kernel_rfl) ((decide_eq_true (by omega)) : ((decide (((k : Nat) : Int) < ((c.length : Nat) : Int)))) = true)) ?_
    refine cf_go 15 ?_
    refine cf_val 20 ((.slice pv k cv)) H1 (by kernel_rfl) ((by kernel_rfl : _ = val (aload T2 31 (.pointer (some ⟨X, 0, none⟩)) H1) H1).trans (val_of ((aload_at gX).trans (by kernel_rfl)))) ?_
    refine cf_go 4 ?_
    obtain ⟨H4_, hH4_⟩ : ∃ x : Heap, x = H1.push ⟨[Value.int .i64 ((k : Nat) : Int), .int .i64 ((k : Nat) : Int), .int .i64 ((k : Nat) : Int)], 40, false⟩ := ⟨_, rfl⟩
    have nH4_ : H4_.n = H1.n + 1 := by rw [hH4_]; rfl
    refine cf_val 25 (.slice (some ⟨H1.n, 0, none⟩) 1 1) H4_ (by kernel_rfl) ((by kernel_rfl : _ = some (Res.val (.slice (some ⟨H1.n, 0, none⟩) 1 1), H1.push ⟨[Value.int .i64 ((k : Nat) : Int), .int .i64 ((k : Nat) : Int), .int .i64 ((k : Nat) : Int)], 40, false⟩)).trans (by rw [← hH4_])) ?_
    have gH4_H1_n : H4_.get (H1.n) = some ⟨[Value.int .i64 ((k : Nat) : Int), .int .i64 ((k : Nat) : Int), .int .i64 ((k : Nat) : Int)], 40, false⟩ := by rw [hH4_]; exact (Heap.get_push _ _ _).trans (if_pos rfl)
    have gk4_ := hgv.keep (H' := H4_) (lo' := H.n) (by omega) (fun b hb1 hb2 => by rw [hH4_, Heap.get_push, if_neg (by omega)])
    have gH4_H_n : H4_.get (H.n) = some ⟨[(.slice pc c.length cc), .int .i64 0, .int .i64 0, .int .i64 0, .int .i64 0, (.slice po o.length co), .slice none 0 0, .int .i64 fl, .int .u32 0, .int .i64 (-1), .int .i64 0, .int .u32 0, .int .i64 1, .int .i64 ((c.length : Nat) : Int)], 29, false⟩ := by rw [hH4_, Heap.get_push, if_neg (by omega)]; exact gP
    have gH4_X : H4_.get (X) = some ⟨[(.slice pv k cv)], 31, false⟩ := by rw [hH4_, Heap.get_push, if_neg (by omega)]; exact gX
    obtain ⟨ovH5_, H5_, hapH5_, hgrH5_, uH5_, frH5_, nH5_, hvH5_⟩ := aappend_gr (T := T2) (st := 31) (xt := 31) (e := 40) (xd := .slice 40) (s0 := 2) (by_ := 23) (z := .agg #[.int .i64 0, .int .i64 0, .int .i64 0]) (by kernel_rfl) (by kernel_rfl) rfl (by kernel_rfl) (by kernel_rfl) (by kernel_rfl) (lo := H.n) gk4_ (x := .slice (some ⟨H1.n, 0, none⟩) 1 1) (asrc_blk (l := [Value.int .i64 ((k : Nat) : Int), .int .i64 ((k : Nat) : Int), .int .i64 ((k : Nat) : Int)]) gH4_H1_n rfl rfl) rfl rfl (by omega) (Gr.ne hgv (by omega)) (by omega) (by omega)
    subst hvH5_
    have gH5_H_nc : H5_.get (H.n) = some ⟨[(.slice pc c.length cc), .int .i64 0, .int .i64 0, .int .i64 0, .int .i64 0, (.slice po o.length co), .slice none 0 0, .int .i64 fl, .int .u32 0, .int .i64 (-1), .int .i64 0, .int .u32 0, .int .i64 1, .int .i64 ((c.length : Nat) : Int)], 29, false⟩ := by rw [frH5_ _ (by omega) (Gr.neT gk4_ gH4_H_n (by decide))]; exact gH4_H_n
    have gH5_Xc : H5_.get (X) = some ⟨[(.slice pv k cv)], 31, false⟩ := by rw [frH5_ _ (by omega) (Gr.neT gk4_ gH4_X (by decide))]; exact gH4_X
    refine cf_val 26 (.slice (some ⟨H4_.n, 0, none⟩) (k + 1) (unk + 3)) H5_ (by kernel_rfl) ((by kernel_rfl : _ = val2 (aappend T2 31 31 (.slice pv k cv) (.slice (some ⟨H1.n, 0, none⟩) 1 1) H4_)).trans (by rw [hapH5_]; rfl)) ?_
    obtain ⟨H6_, hH6_⟩ : ∃ x : Heap, x = H5_.put (X) ⟨[Value.slice (some ⟨H4_.n, 0, none⟩) (k + 1) (unk + 3)], 31, false⟩ := ⟨_, rfl⟩
    have nH6_ : H6_.n = H5_.n := by rw [hH6_]; rfl
    refine cf_skip H6_ (by kernel_rfl) ((by kernel_rfl : _ = skp (astore T2 31 (.pointer (some ⟨X, 0, none⟩)) (.slice (some ⟨H4_.n, 0, none⟩) (k + 1) (unk + 3)) H5_)).trans (by rw [astore_to gH5_Xc (by kernel_rfl), ← hH6_]; rfl)) ?_
    refine cf_go 5 ?_
    refine cf_see 27 (.int .i64 ((k + 1 : Nat) : Int)) (see_int (x := (IntKind.i64.wrap (((k : Nat) : Int) + 1))) (by kernel_rfl) (w64 (by omega) (by omega) (by omega))) ?_
    refine cf_go 2 ?_
    have gH6_H_n : H6_.get (H.n) = some ⟨[(.slice pc c.length cc), .int .i64 0, .int .i64 0, .int .i64 0, .int .i64 0, (.slice po o.length co), .slice none 0 0, .int .i64 fl, .int .u32 0, .int .i64 (-1), .int .i64 0, .int .u32 0, .int .i64 1, .int .i64 ((c.length : Nat) : Int)], 29, false⟩ := by rw [hH6_, Heap.get_put, if_neg (by omega)]; exact gH5_H_nc
    have gH6_X : H6_.get (X) = some ⟨[Value.slice (some ⟨H4_.n, 0, none⟩) (k + 1) (unk + 3)], 31, false⟩ := by rw [hH6_]; exact (Heap.get_put _ _ _ _).trans (if_pos rfl)
    have hgr9 : Gr H6_ H.n 40 3 (.slice (some ⟨H4_.n, 0, none⟩) (k + 1) (unk + 3)) (k + 1) (ivs (seedl (k + 1))) := by rw [seedl_succ, ivs_snoc]; exact Gr.keep1 hgrH5_ gH5_Xc (by decide) (by omega) (fun b hb1 hb2 hb3 => by rw [hH6_, Heap.get_put, if_neg (by omega)])
    refine cf_inv Rr1 (by kernel_rfl) (hRr1 _ ⟨c.length - (k + 1), by omega, k + 1, _, H6_, rfl, by omega, gH6_H_n, gH6_X, hgr9, by omega, by omega, (show Up H.n H H6_ from ⟨by omega, fun b hb => by rw [hH6_, Heap.get_put, if_neg (by omega), uH5_.get _ (by omega), hH4_, Heap.get_push, if_neg (by omega), uH1.get _ (by omega)]⟩), ⟨(by kernel_rfl), (by kernel_rfl), (by kernel_rfl), (by kernel_rfl), (by kernel_rfl), True.intro⟩, (by kernel_rfl)⟩)
  · skip
    obtain rfl : k = c.length := by omega
    refine cf_go 3 ?_
    refine cf_see 18 (.bool false) (see_bool (by kernel_rfl) ((decide_eq_false (by omega)) : ((decide (((c.length : Nat) : Int) < ((c.length : Nat) : Int)))) = false)) ?_
    refine cf_go 19 ?_
    refine cf_val 30 ((.slice pc c.length cc)) H1 (by kernel_rfl) ((by kernel_rfl : _ = val (aload T2 26 (.pointer (some ⟨H.n, 0, none⟩)) H1) H1).trans (val_of ((aload_at gP).trans (by kernel_rfl)))) ?_
    refine cf_go 5 ?_
    refine cf_loop 86 (cl (cl (cr (cl (cr (cr (cr (cr (cr f10b))))))))) [.blk 2, .next (cr (cr (cr (cr (cr (cr f10b))))))] (by kernel_rfl) (by kernel_rfl) (by kernel_rfl) (fun m9 s9 => ∃ (k : Nat) (H2 : Heap), m9 = c.length - k ∧ k ≤ c.length ∧ H2.get H.n = some ⟨[(.slice pc c.length cc), .int .i64 0, .int .i64 0, .int .i64 0, .int .i64 0, (.slice po o.length co), .slice none 0 0, .int .i64 fl, .int .u32 0, .int .i64 (-1), .int .i64 0, .int .u32 0, .int .i64 1, .int .i64 ((c.length : Nat) : Int)], 29, false⟩ ∧ H2.get X = some ⟨[(.slice pv c.length cv)], 31, false⟩ ∧ Gr H2 H.n 40 3 (.slice pv c.length cv) c.length (ivs (codeL maxat c k)) ∧ X < H2.n ∧ Up H.n H H2 ∧ Kn s9.tm [(1, .pointer (some ⟨H.n, 0, none⟩)), (2, .slice none 0 0), (3, .pointer (some ⟨X, 0, none⟩)), (5, .func (.func 21) #[] #[.pointer (some ⟨X, 0, none⟩)]), (30, (.slice pc c.length cc)), (31, .int .i64 ((c.length : Nat) : Int)), (32, .int .i64 ((k : Nat) : Int))] ∧ s9.H = H2) (c.length) ⟨0, H1, by omega, by omega, gP, gX, hgv, by omega, (show Up H.n H H1 from ⟨by omega, fun b hb => by rw [uH1.get _ (by omega)]⟩), ⟨(by kernel_rfl), (by kernel_rfl), (by kernel_rfl), (by kernel_rfl), (by kernel_rfl), (by kernel_rfl), (by kernel_rfl), True.intro⟩, (by kernel_rfl)⟩ ?_
    rintro m9 s9 ⟨k, H2, hm, hk, gP2, gX2, hgv2, bX3, uH2, hkn, hH⟩ Rr2 hRr2
    refine cf_kn [(1, .pointer (some ⟨H.n, 0, none⟩)), (2, .slice none 0 0), (3, .pointer (some ⟨X, 0, none⟩)), (5, .func (.func 21) #[] #[.pointer (some ⟨X, 0, none⟩)]), (30, (.slice pc c.length cc)), (31, .int .i64 ((c.length : Nat) : Int)), (32, .int .i64 ((k : Nat) : Int))] hkn hH fun tm => ?_
    have nH2 := uH2.n
    have hlB := codeL_len maxat_len c k
    by_cases hlt : k < c.length
    · skip
      obtain ⟨ii, hx⟩ : ∃ x, c[k]? = some x := ⟨_, List.getElem?_eq_getElem hlt⟩
      rcases hok.code k ii hx with h0 | ⟨t, a, b, ht, ha1, ha2, hb1, hb2, h0⟩
      · subst h0
        have hv0 := hgv2
        have nvH_n := fun B c k h9 => Gr.neT hv0 gP2 (by decide) B c k h9
        have nvX := fun B c k h9 => Gr.neT hv0 gX2 (by decide) B c k h9
        rcases hv0.at_ with ⟨_, h0⟩ | ⟨B0, heB0, gB0, hB0, hB0l⟩
        · omega
        have nvH_n := nvH_n B0 _ _ heB0
        have nvX := nvX B0 _ _ heB0
        obtain ⟨rfl, rfl⟩ : pv = some ⟨B0, 0, none⟩ ∧ cv = unk + 3 := by injection heB0 with e1 _ e3; exact ⟨e1, e3⟩
        rcases hgc.at_ with ⟨_, h0⟩ | ⟨A, heA, gAA, hAA, _⟩
        · omega
        obtain ⟨rfl, rfl⟩ : pc = some ⟨A, 0, none⟩ ∧ cc = unk + 5 := by injection heA with e1 _ e3; exact ⟨e1, e3⟩
        refine cf_go 3 ?_
        refine cf_see 33 (.bool true) (see_bool (by kernel_rfl) ((decide_eq_true (by omega)) : ((decide (((k : Nat) : Int) < ((c.length : Nat) : Int)))) = true)) ?_
        refine cf_go 11 ?_
        refine cf_val 35 (.pointer (some ⟨A, 0 + k * 5, none⟩)) H2 (by kernel_rfl) ((by kernel_rfl : _ = val (bif (k : Nat).blt c.length then some (.pointer (some ⟨A, 0 + k * 5, none⟩)) else none) H2).trans (by rw [show (k : Nat).blt c.length = true from (by rw [blt_dec]; simp only [decide_eq_true_eq]; omega)]; rfl)) ?_
        have gH2A : H2.get (A) = some ⟨(iis c), 50, false⟩ := by rw [uH2.get _ (by omega)]; exact gAA
        refine cf_val 36 (.agg #[.int .i64 0, .int .i64 ((k : Nat) : Int), .int .i64 0, .int .i64 0, .int .u32 ((k : Nat) : Int)]) H2 (by kernel_rfl) ((by kernel_rfl : _ = val (aload T2 50 (.pointer (some ⟨A, 0 + k * 5, none⟩)) H2) H2).trans (val_of ((aload_at gH2A).trans (aloadC_rowB (n := 5) (l := [Value.int .i64 0, .int .i64 ((k : Nat) : Int), .int .i64 0, .int .i64 0, .int .u32 ((k : Nat) : Int)]) (by kernel_rfl) (by kernel_rfl) (by kernel_rfl) (iis_at c k _ hx))))) ?_
        obtain ⟨H7_, hH7_⟩ : ∃ x : Heap, x = H2.push ⟨[Value.int .i64 0, .int .i64 0, .int .i64 0, .int .i64 0, .int .u32 0], 50, false⟩ := ⟨_, rfl⟩
        have nH7_ : H7_.n = H2.n + 1 := by rw [hH7_]; rfl
        refine cf_val 7 (.pointer (some ⟨H2.n, 0, none⟩)) H7_ (by kernel_rfl) ((by kernel_rfl : _ = some (Res.val (.pointer (some ⟨H2.n, 0, none⟩)), H2.push ⟨[Value.int .i64 0, .int .i64 0, .int .i64 0, .int .i64 0, .int .u32 0], 50, false⟩)).trans (by rw [← hH7_])) ?_
        refine cf_go 1 ?_
        have gH7_H2_n : H7_.get (H2.n) = some ⟨[Value.int .i64 0, .int .i64 0, .int .i64 0, .int .i64 0, .int .u32 0], 50, false⟩ := by rw [hH7_]; exact (Heap.get_push _ _ _).trans (if_pos rfl)
        obtain ⟨H8_, hH8_⟩ : ∃ x : Heap, x = H7_.put (H2.n) ⟨[Value.int .i64 0, .int .i64 ((k : Nat) : Int), .int .i64 0, .int .i64 0, .int .u32 ((k : Nat) : Int)], 50, false⟩ := ⟨_, rfl⟩
        have nH8_ : H8_.n = H7_.n := by rw [hH8_]; rfl
        refine cf_skip H8_ (by kernel_rfl) ((by kernel_rfl : _ = skp (astore T2 50 (.pointer (some ⟨H2.n, 0, none⟩)) (.agg #[.int .i64 0, .int .i64 ((k : Nat) : Int), .int .i64 0, .int .i64 0, .int .u32 ((k : Nat) : Int)]) H7_)).trans (by rw [astore_to gH7_H2_n (by kernel_rfl), ← hH8_]; rfl)) ?_
        refine cf_go 5 ?_
        have gH8_H2_n : H8_.get (H2.n) = some ⟨[Value.int .i64 0, .int .i64 ((k : Nat) : Int), .int .i64 0, .int .i64 0, .int .u32 ((k : Nat) : Int)], 50, false⟩ := by rw [hH8_]; exact (Heap.get_put _ _ _ _).trans (if_pos rfl)
        refine cf_val 38 (.int .i64 0) H8_ (by kernel_rfl) ((by kernel_rfl : _ = val (aload T2 3 (.pointer (some ⟨H2.n, 0, none⟩)) H8_) H8_).trans (val_of ((aload_at gH8_H2_n).trans (by kernel_rfl)))) ?_
        refine cf_go 3 ?_
        refine cf_val 42 (.int .i64 0) H8_ (by kernel_rfl) ((by kernel_rfl : _ = val (aload T2 3 (.pointer (some ⟨H2.n, 0, none⟩)) H8_) H8_).trans (val_of ((aload_at gH8_H2_n).trans (by kernel_rfl)))) ?_
        refine cf_go 10 ?_
        refine cf_see 55 (.int .i64 ((k + 1 : Nat) : Int)) (see_int (x := (IntKind.i64.wrap (((k : Nat) : Int) + 1))) (by kernel_rfl) (w64 (by omega) (by omega) (by omega))) ?_
        refine cf_go 2 ?_
        have gH8_H_n : H8_.get (H.n) = some ⟨[Value.slice (some ⟨A, 0, none⟩) c.length (unk + 5), .int .i64 0, .int .i64 0, .int .i64 0, .int .i64 0, (.slice po o.length co), .slice none 0 0, .int .i64 fl, .int .u32 0, .int .i64 (-1), .int .i64 0, .int .u32 0, .int .i64 1, .int .i64 ((c.length : Nat) : Int)], 29, false⟩ := by rw [hH8_, Heap.get_put, if_neg (by omega)]; rw [hH7_, Heap.get_push, if_neg (by omega)]; exact gP2
        have gH8_X : H8_.get (X) = some ⟨[Value.slice (some ⟨B0, 0, none⟩) c.length (unk + 3)], 31, false⟩ := by rw [hH8_, Heap.get_put, if_neg (by omega)]; rw [hH7_, Heap.get_push, if_neg (by omega)]; exact gX2
        have gH8_B0 : H8_.get (B0) = some ⟨(ivs (codeL maxat c k)), 40, false⟩ := by rw [hH8_, Heap.get_put, if_neg (by omega)]; rw [hH7_, Heap.get_push, if_neg (by omega)]; exact gB0
        have hgr9 : Gr H8_ H.n 40 3 (.slice (some ⟨B0, 0, none⟩) c.length (unk + 3)) c.length (ivs (codeL maxat c (k + 1))) := by rw [codeL_succ _ _ _ _ hx]; exact Gr.iv gH8_B0 hlB (by omega) hB0l
        refine cf_inv Rr2 (by kernel_rfl) (hRr2 _ ⟨c.length - (k + 1), by omega, k + 1, H8_, rfl, by omega, gH8_H_n, gH8_X, hgr9, by omega, (show Up H.n H H8_ from ⟨by omega, fun b hb => by rw [hH8_, Heap.get_put, if_neg (by omega), hH7_, Heap.get_push, if_neg (by omega), uH2.get _ (by omega)]⟩), ⟨(by kernel_rfl), (by kernel_rfl), (by kernel_rfl), (by kernel_rfl), (by kernel_rfl), (by kernel_rfl), (by kernel_rfl), True.intro⟩, (by kernel_rfl)⟩)
      · subst h0
        obtain ⟨a, rfl⟩ := Int.eq_ofNat_of_zero_le ha1
        obtain ⟨b, rfl⟩ := Int.eq_ofNat_of_zero_le hb1
        rcases ht with rfl | rfl
        · skip
          have hv0 := hgv2
          have nvH_n := fun B c k h9 => Gr.neT hv0 gP2 (by decide) B c k h9
          have nvX := fun B c k h9 => Gr.neT hv0 gX2 (by decide) B c k h9
          rcases hv0.at_ with ⟨_, h0⟩ | ⟨B0, heB0, gB0, hB0, hB0l⟩
          · omega
          have nvH_n := nvH_n B0 _ _ heB0
          have nvX := nvX B0 _ _ heB0
          obtain ⟨rfl, rfl⟩ : pv = some ⟨B0, 0, none⟩ ∧ cv = unk + 3 := by injection heB0 with e1 _ e3; exact ⟨e1, e3⟩
          rcases hgc.at_ with ⟨_, h0⟩ | ⟨A, heA, gAA, hAA, _⟩
          · omega
          obtain ⟨rfl, rfl⟩ : pc = some ⟨A, 0, none⟩ ∧ cc = unk + 5 := by injection heA with e1 _ e3; exact ⟨e1, e3⟩
          refine cf_go 3 ?_
          refine cf_see 33 (.bool true) (see_bool (by kernel_rfl) ((decide_eq_true (by omega)) : ((decide (((k : Nat) : Int) < ((c.length : Nat) : Int)))) = true)) ?_
          refine cf_go 11 ?_
          refine cf_val 35 (.pointer (some ⟨A, 0 + k * 5, none⟩)) H2 (by kernel_rfl) ((by kernel_rfl : _ = val (bif (k : Nat).blt c.length then some (.pointer (some ⟨A, 0 + k * 5, none⟩)) else none) H2).trans (by rw [show (k : Nat).blt c.length = true from (by rw [blt_dec]; simp only [decide_eq_true_eq]; omega)]; rfl)) ?_
          have gH2A : H2.get (A) = some ⟨(iis c), 50, false⟩ := by rw [uH2.get _ (by omega)]; exact gAA
          refine cf_val 36 (.agg #[.int .i64 3, .int .i64 ((k : Nat) : Int), .int .i64 ((a : Nat) : Int), .int .i64 ((b : Nat) : Int), .int .u32 20]) H2 (by kernel_rfl) ((by kernel_rfl : _ = val (aload T2 50 (.pointer (some ⟨A, 0 + k * 5, none⟩)) H2) H2).trans (val_of ((aload_at gH2A).trans (aloadC_rowB (n := 5) (l := [Value.int .i64 3, .int .i64 ((k : Nat) : Int), .int .i64 ((a : Nat) : Int), .int .i64 ((b : Nat) : Int), .int .u32 20]) (by kernel_rfl) (by kernel_rfl) (by kernel_rfl) (iis_at c k _ hx))))) ?_
          obtain ⟨H9_, hH9_⟩ : ∃ x : Heap, x = H2.push ⟨[Value.int .i64 0, .int .i64 0, .int .i64 0, .int .i64 0, .int .u32 0], 50, false⟩ := ⟨_, rfl⟩
          have nH9_ : H9_.n = H2.n + 1 := by rw [hH9_]; rfl
          refine cf_val 7 (.pointer (some ⟨H2.n, 0, none⟩)) H9_ (by kernel_rfl) ((by kernel_rfl : _ = some (Res.val (.pointer (some ⟨H2.n, 0, none⟩)), H2.push ⟨[Value.int .i64 0, .int .i64 0, .int .i64 0, .int .i64 0, .int .u32 0], 50, false⟩)).trans (by rw [← hH9_])) ?_
          refine cf_go 1 ?_
          have gH9_H2_n : H9_.get (H2.n) = some ⟨[Value.int .i64 0, .int .i64 0, .int .i64 0, .int .i64 0, .int .u32 0], 50, false⟩ := by rw [hH9_]; exact (Heap.get_push _ _ _).trans (if_pos rfl)
          obtain ⟨H10_, hH10_⟩ : ∃ x : Heap, x = H9_.put (H2.n) ⟨[Value.int .i64 3, .int .i64 ((k : Nat) : Int), .int .i64 ((a : Nat) : Int), .int .i64 ((b : Nat) : Int), .int .u32 20], 50, false⟩ := ⟨_, rfl⟩
          have nH10_ : H10_.n = H9_.n := by rw [hH10_]; rfl
          refine cf_skip H10_ (by kernel_rfl) ((by kernel_rfl : _ = skp (astore T2 50 (.pointer (some ⟨H2.n, 0, none⟩)) (.agg #[.int .i64 3, .int .i64 ((k : Nat) : Int), .int .i64 ((a : Nat) : Int), .int .i64 ((b : Nat) : Int), .int .u32 20]) H9_)).trans (by rw [astore_to gH9_H2_n (by kernel_rfl), ← hH10_]; rfl)) ?_
          refine cf_go 5 ?_
          have gH10_H2_n : H10_.get (H2.n) = some ⟨[Value.int .i64 3, .int .i64 ((k : Nat) : Int), .int .i64 ((a : Nat) : Int), .int .i64 ((b : Nat) : Int), .int .u32 20], 50, false⟩ := by rw [hH10_]; exact (Heap.get_put _ _ _ _).trans (if_pos rfl)
          refine cf_val 38 (.int .i64 3) H10_ (by kernel_rfl) ((by kernel_rfl : _ = val (aload T2 3 (.pointer (some ⟨H2.n, 0, none⟩)) H10_) H10_).trans (val_of ((aload_at gH10_H2_n).trans (by kernel_rfl)))) ?_
          refine cf_go 13 ?_
          refine cf_val 47 (.int .i64 ((a : Nat) : Int)) H10_ (by kernel_rfl) ((by kernel_rfl : _ = val (aload T2 3 (.pointer (some ⟨H2.n, 2, none⟩)) H10_) H10_).trans (val_of ((aload_at gH10_H2_n).trans (by kernel_rfl)))) ?_
          refine cf_go 6 ?_
          refine cf_see 6 (.bool true) (see_bool (by kernel_rfl) ((decide_eq_true (by omega)) : ((decide (((a : Nat) : Int) ≥ 0))) = true)) ?_
          refine cf_go 4 ?_
          have gH10_X : H10_.get (X) = some ⟨[Value.slice (some ⟨B0, 0, none⟩) c.length (unk + 3)], 31, false⟩ := by rw [hH10_, Heap.get_put, if_neg (by omega)]; rw [hH9_, Heap.get_push, if_neg (by omega)]; exact gX2
          refine cf_val 7 (.slice (some ⟨B0, 0, none⟩) c.length (unk + 3)) H10_ (by kernel_rfl) ((by kernel_rfl : _ = val (aload T2 31 (.pointer (some ⟨X, 0, none⟩)) H10_) H10_).trans (val_of ((aload_at gH10_X).trans (by kernel_rfl)))) ?_
          refine cf_go 1 ?_
          refine cf_val 9 (.slice (some ⟨B0, 0, none⟩) c.length (unk + 3)) H10_ (by kernel_rfl) ((by kernel_rfl : _ = val (aload T2 31 (.pointer (some ⟨X, 0, none⟩)) H10_) H10_).trans (val_of ((aload_at gH10_X).trans (by kernel_rfl)))) ?_
          refine cf_go 1 ?_
          refine cf_val 11 (.pointer (some ⟨B0, 0 + a * 3, none⟩)) H10_ (by kernel_rfl) ((by kernel_rfl : _ = val (bif (a : Nat).blt c.length then some (.pointer (some ⟨B0, 0 + a * 3, none⟩)) else none) H10_).trans (by rw [show (a : Nat).blt c.length = true from (by rw [blt_dec]; simp only [decide_eq_true_eq]; omega)]; rfl)) ?_
          obtain ⟨iv1, hiv1⟩ : ∃ i, (codeL maxat c k)[a]? = some i := ⟨_, List.getElem?_eq_getElem (by rw [hlB]; omega)⟩
          refine cf_go 1 ?_
          have gH10_B0 : H10_.get (B0) = some ⟨(ivs (codeL maxat c k)), 40, false⟩ := by rw [hH10_, Heap.get_put, if_neg (by omega)]; rw [hH9_, Heap.get_push, if_neg (by omega)]; exact gB0
          refine cf_val 13 (.int .i64 iv1.2.2) H10_ (by kernel_rfl) ((by kernel_rfl : _ = val (aload T2 3 (.pointer (some ⟨B0, 0 + a * 3 + 2, none⟩)) H10_) H10_).trans (val_of ((aload_at gH10_B0).trans (aloadC_cellB (n := 1) (by kernel_rfl) (by kernel_rfl) (ivs_cell _ _ _ 2 hiv1 (by decide)))))) ?_
          refine cf_go 2 ?_
          refine cf_see 15 (.int .i64 (max iv1.2.2 ((k : Nat) : Int))) (see_int (x := (if ((k : Nat) : Int) > iv1.2.2 then ((k : Nat) : Int) else iv1.2.2)) (by kernel_rfl) (by split <;> omega)) ?_
          refine cf_val 16 (.pointer (some ⟨B0, 0 + a * 3, none⟩)) H10_ (by kernel_rfl) ((by kernel_rfl : _ = val (bif (a : Nat).blt c.length then some (.pointer (some ⟨B0, 0 + a * 3, none⟩)) else none) H10_).trans (by rw [show (a : Nat).blt c.length = true from (by rw [blt_dec]; simp only [decide_eq_true_eq]; omega)]; rfl)) ?_
          have hw2 : (codeL maxat c k).set a (iv1.1, iv1.2.1, (max iv1.2.2 ((k : Nat) : Int))) = maxat (codeL maxat c k) a ((k : Nat) : Int) := maxat_eq ((k : Nat) : Int) hiv1
          have hl2 : (maxat (codeL maxat c k) a ((k : Nat) : Int)).length = c.length := by rw [maxat_len]; exact hlB
          refine cf_go 1 ?_
          obtain ⟨H11_, hH11_⟩ : ∃ x : Heap, x = H10_.put (B0) ⟨(ivs (maxat (codeL maxat c k) a ((k : Nat) : Int))), 40, false⟩ := ⟨_, rfl⟩
          have nH11_ : H11_.n = H10_.n := by rw [hH11_]; rfl
          refine cf_skip H11_ (by kernel_rfl) ((by kernel_rfl : _ = skp (astore T2 3 (.pointer (some ⟨B0, 0 + a * 3 + 2, none⟩)) (.int .i64 (max iv1.2.2 ((k : Nat) : Int))) H10_)).trans (by rw [astore_to gH10_B0 ((astoreC_one (by kernel_rfl) (by kernel_rfl) (by kernel_rfl) (by rw [ivs_len, hlB]; omega)).trans (by rw [ivs_set _ _ _ _ hiv1, hw2])), ← hH11_]; rfl)) ?_
          refine cf_go 7 ?_
          have gH11_H2_n : H11_.get (H2.n) = some ⟨[Value.int .i64 3, .int .i64 ((k : Nat) : Int), .int .i64 ((a : Nat) : Int), .int .i64 ((b : Nat) : Int), .int .u32 20], 50, false⟩ := by rw [hH11_, Heap.get_put, if_neg (by omega)]; exact gH10_H2_n
          refine cf_val 52 (.int .i64 ((b : Nat) : Int)) H11_ (by kernel_rfl) ((by kernel_rfl : _ = val (aload T2 3 (.pointer (some ⟨H2.n, 3, none⟩)) H11_) H11_).trans (val_of ((aload_at gH11_H2_n).trans (by kernel_rfl)))) ?_
          refine cf_go 6 ?_
          refine cf_see 6 (.bool true) (see_bool (by kernel_rfl) ((decide_eq_true (by omega)) : ((decide (((b : Nat) : Int) ≥ 0))) = true)) ?_
          refine cf_go 4 ?_
          have gH11_X : H11_.get (X) = some ⟨[Value.slice (some ⟨B0, 0, none⟩) c.length (unk + 3)], 31, false⟩ := by rw [hH11_, Heap.get_put, if_neg (by omega)]; exact gH10_X
          refine cf_val 7 (.slice (some ⟨B0, 0, none⟩) c.length (unk + 3)) H11_ (by kernel_rfl) ((by kernel_rfl : _ = val (aload T2 31 (.pointer (some ⟨X, 0, none⟩)) H11_) H11_).trans (val_of ((aload_at gH11_X).trans (by kernel_rfl)))) ?_
          refine cf_go 1 ?_
          refine cf_val 9 (.slice (some ⟨B0, 0, none⟩) c.length (unk + 3)) H11_ (by kernel_rfl) ((by kernel_rfl : _ = val (aload T2 31 (.pointer (some ⟨X, 0, none⟩)) H11_) H11_).trans (val_of ((aload_at gH11_X).trans (by kernel_rfl)))) ?_
          refine cf_go 1 ?_
          refine cf_val 11 (.pointer (some ⟨B0, 0 + b * 3, none⟩)) H11_ (by kernel_rfl) ((by kernel_rfl : _ = val (bif (b : Nat).blt c.length then some (.pointer (some ⟨B0, 0 + b * 3, none⟩)) else none) H11_).trans (by rw [show (b : Nat).blt c.length = true from (by rw [blt_dec]; simp only [decide_eq_true_eq]; omega)]; rfl)) ?_
          obtain ⟨iv3, hiv3⟩ : ∃ i, (maxat (codeL maxat c k) a ((k : Nat) : Int))[b]? = some i := ⟨_, List.getElem?_eq_getElem (by rw [hl2]; omega)⟩
          refine cf_go 1 ?_
          have gH11_B0 : H11_.get (B0) = some ⟨(ivs (maxat (codeL maxat c k) a ((k : Nat) : Int))), 40, false⟩ := by rw [hH11_]; exact (Heap.get_put _ _ _ _).trans (if_pos rfl)
          refine cf_val 13 (.int .i64 iv3.2.2) H11_ (by kernel_rfl) ((by kernel_rfl : _ = val (aload T2 3 (.pointer (some ⟨B0, 0 + b * 3 + 2, none⟩)) H11_) H11_).trans (val_of ((aload_at gH11_B0).trans (aloadC_cellB (n := 1) (by kernel_rfl) (by kernel_rfl) (ivs_cell _ _ _ 2 hiv3 (by decide)))))) ?_
          refine cf_go 2 ?_
          refine cf_see 15 (.int .i64 (max iv3.2.2 ((k : Nat) : Int))) (see_int (x := (if ((k : Nat) : Int) > iv3.2.2 then ((k : Nat) : Int) else iv3.2.2)) (by kernel_rfl) (by split <;> omega)) ?_
          refine cf_val 16 (.pointer (some ⟨B0, 0 + b * 3, none⟩)) H11_ (by kernel_rfl) ((by kernel_rfl : _ = val (bif (b : Nat).blt c.length then some (.pointer (some ⟨B0, 0 + b * 3, none⟩)) else none) H11_).trans (by rw [show (b : Nat).blt c.length = true from (by rw [blt_dec]; simp only [decide_eq_true_eq]; omega)]; rfl)) ?_
          have hw4 : (maxat (codeL maxat c k) a ((k : Nat) : Int)).set b (iv3.1, iv3.2.1, (max iv3.2.2 ((k : Nat) : Int))) = maxat (maxat (codeL maxat c k) a ((k : Nat) : Int)) b ((k : Nat) : Int) := maxat_eq ((k : Nat) : Int) hiv3
          have hl4 : (maxat (maxat (codeL maxat c k) a ((k : Nat) : Int)) b ((k : Nat) : Int)).length = c.length := by rw [maxat_len]; exact hl2
          refine cf_go 1 ?_
          obtain ⟨H12_, hH12_⟩ : ∃ x : Heap, x = H11_.put (B0) ⟨(ivs (maxat (maxat (codeL maxat c k) a ((k : Nat) : Int)) b ((k : Nat) : Int))), 40, false⟩ := ⟨_, rfl⟩
          have nH12_ : H12_.n = H11_.n := by rw [hH12_]; rfl
          refine cf_skip H12_ (by kernel_rfl) ((by kernel_rfl : _ = skp (astore T2 3 (.pointer (some ⟨B0, 0 + b * 3 + 2, none⟩)) (.int .i64 (max iv3.2.2 ((k : Nat) : Int))) H11_)).trans (by rw [astore_to gH11_B0 ((astoreC_one (by kernel_rfl) (by kernel_rfl) (by kernel_rfl) (by rw [ivs_len, hl2]; omega)).trans (by rw [ivs_set _ _ _ _ hiv3, hw4])), ← hH12_]; rfl)) ?_
          refine cf_go 7 ?_
          refine cf_see 55 (.int .i64 ((k + 1 : Nat) : Int)) (see_int (x := (IntKind.i64.wrap (((k : Nat) : Int) + 1))) (by kernel_rfl) (w64 (by omega) (by omega) (by omega))) ?_
          refine cf_go 2 ?_
          have gH12_H_n : H12_.get (H.n) = some ⟨[Value.slice (some ⟨A, 0, none⟩) c.length (unk + 5), .int .i64 0, .int .i64 0, .int .i64 0, .int .i64 0, (.slice po o.length co), .slice none 0 0, .int .i64 fl, .int .u32 0, .int .i64 (-1), .int .i64 0, .int .u32 0, .int .i64 1, .int .i64 ((c.length : Nat) : Int)], 29, false⟩ := by rw [hH12_, Heap.get_put, if_neg (by omega)]; rw [hH11_, Heap.get_put, if_neg (by omega)]; rw [hH10_, Heap.get_put, if_neg (by omega)]; rw [hH9_, Heap.get_push, if_neg (by omega)]; exact gP2
          have gH12_X : H12_.get (X) = some ⟨[Value.slice (some ⟨B0, 0, none⟩) c.length (unk + 3)], 31, false⟩ := by rw [hH12_, Heap.get_put, if_neg (by omega)]; exact gH11_X
          have gH12_B0 : H12_.get (B0) = some ⟨(ivs (maxat (maxat (codeL maxat c k) a ((k : Nat) : Int)) b ((k : Nat) : Int))), 40, false⟩ := by rw [hH12_]; exact (Heap.get_put _ _ _ _).trans (if_pos rfl)
          have hgr9 : Gr H12_ H.n 40 3 (.slice (some ⟨B0, 0, none⟩) c.length (unk + 3)) c.length (ivs (codeL maxat c (k + 1))) := by rw [codeL_succ _ _ _ _ hx]; exact Gr.iv gH12_B0 hl4 (by omega) hB0l
          refine cf_inv Rr2 (by kernel_rfl) (hRr2 _ ⟨c.length - (k + 1), by omega, k + 1, H12_, rfl, by omega, gH12_H_n, gH12_X, hgr9, by omega, (show Up H.n H H12_ from ⟨by omega, fun b hb => by rw [hH12_, Heap.get_put, if_neg (by omega), hH11_, Heap.get_put, if_neg (by omega), hH10_, Heap.get_put, if_neg (by omega), hH9_, Heap.get_push, if_neg (by omega), uH2.get _ (by omega)]⟩), ⟨(by kernel_rfl), (by kernel_rfl), (by kernel_rfl), (by kernel_rfl), (by kernel_rfl), (by kernel_rfl), (by kernel_rfl), True.intro⟩, (by kernel_rfl)⟩)
        · skip
          have hv0 := hgv2
          have nvH_n := fun B c k h9 => Gr.neT hv0 gP2 (by decide) B c k h9
          have nvX := fun B c k h9 => Gr.neT hv0 gX2 (by decide) B c k h9
          rcases hv0.at_ with ⟨_, h0⟩ | ⟨B0, heB0, gB0, hB0, hB0l⟩
          · omega
          have nvH_n := nvH_n B0 _ _ heB0
          have nvX := nvX B0 _ _ heB0
          obtain ⟨rfl, rfl⟩ : pv = some ⟨B0, 0, none⟩ ∧ cv = unk + 3 := by injection heB0 with e1 _ e3; exact ⟨e1, e3⟩
          rcases hgc.at_ with ⟨_, h0⟩ | ⟨A, heA, gAA, hAA, _⟩
          · omega
          obtain ⟨rfl, rfl⟩ : pc = some ⟨A, 0, none⟩ ∧ cc = unk + 5 := by injection heA with e1 _ e3; exact ⟨e1, e3⟩
          refine cf_go 3 ?_
          refine cf_see 33 (.bool true) (see_bool (by kernel_rfl) ((decide_eq_true (by omega)) : ((decide (((k : Nat) : Int) < ((c.length : Nat) : Int)))) = true)) ?_
          refine cf_go 11 ?_
          refine cf_val 35 (.pointer (some ⟨A, 0 + k * 5, none⟩)) H2 (by kernel_rfl) ((by kernel_rfl : _ = val (bif (k : Nat).blt c.length then some (.pointer (some ⟨A, 0 + k * 5, none⟩)) else none) H2).trans (by rw [show (k : Nat).blt c.length = true from (by rw [blt_dec]; simp only [decide_eq_true_eq]; omega)]; rfl)) ?_
          have gH2A : H2.get (A) = some ⟨(iis c), 50, false⟩ := by rw [uH2.get _ (by omega)]; exact gAA
          refine cf_val 36 (.agg #[.int .i64 4, .int .i64 ((k : Nat) : Int), .int .i64 ((a : Nat) : Int), .int .i64 ((b : Nat) : Int), .int .u32 20]) H2 (by kernel_rfl) ((by kernel_rfl : _ = val (aload T2 50 (.pointer (some ⟨A, 0 + k * 5, none⟩)) H2) H2).trans (val_of ((aload_at gH2A).trans (aloadC_rowB (n := 5) (l := [Value.int .i64 4, .int .i64 ((k : Nat) : Int), .int .i64 ((a : Nat) : Int), .int .i64 ((b : Nat) : Int), .int .u32 20]) (by kernel_rfl) (by kernel_rfl) (by kernel_rfl) (iis_at c k _ hx))))) ?_
          obtain ⟨H13_, hH13_⟩ : ∃ x : Heap, x = H2.push ⟨[Value.int .i64 0, .int .i64 0, .int .i64 0, .int .i64 0, .int .u32 0], 50, false⟩ := ⟨_, rfl⟩
          have nH13_ : H13_.n = H2.n + 1 := by rw [hH13_]; rfl
          refine cf_val 7 (.pointer (some ⟨H2.n, 0, none⟩)) H13_ (by kernel_rfl) ((by kernel_rfl : _ = some (Res.val (.pointer (some ⟨H2.n, 0, none⟩)), H2.push ⟨[Value.int .i64 0, .int .i64 0, .int .i64 0, .int .i64 0, .int .u32 0], 50, false⟩)).trans (by rw [← hH13_])) ?_
          refine cf_go 1 ?_
          have gH13_H2_n : H13_.get (H2.n) = some ⟨[Value.int .i64 0, .int .i64 0, .int .i64 0, .int .i64 0, .int .u32 0], 50, false⟩ := by rw [hH13_]; exact (Heap.get_push _ _ _).trans (if_pos rfl)
          obtain ⟨H14_, hH14_⟩ : ∃ x : Heap, x = H13_.put (H2.n) ⟨[Value.int .i64 4, .int .i64 ((k : Nat) : Int), .int .i64 ((a : Nat) : Int), .int .i64 ((b : Nat) : Int), .int .u32 20], 50, false⟩ := ⟨_, rfl⟩
          have nH14_ : H14_.n = H13_.n := by rw [hH14_]; rfl
          refine cf_skip H14_ (by kernel_rfl) ((by kernel_rfl : _ = skp (astore T2 50 (.pointer (some ⟨H2.n, 0, none⟩)) (.agg #[.int .i64 4, .int .i64 ((k : Nat) : Int), .int .i64 ((a : Nat) : Int), .int .i64 ((b : Nat) : Int), .int .u32 20]) H13_)).trans (by rw [astore_to gH13_H2_n (by kernel_rfl), ← hH14_]; rfl)) ?_
          refine cf_go 5 ?_
          have gH14_H2_n : H14_.get (H2.n) = some ⟨[Value.int .i64 4, .int .i64 ((k : Nat) : Int), .int .i64 ((a : Nat) : Int), .int .i64 ((b : Nat) : Int), .int .u32 20], 50, false⟩ := by rw [hH14_]; exact (Heap.get_put _ _ _ _).trans (if_pos rfl)
          refine cf_val 38 (.int .i64 4) H14_ (by kernel_rfl) ((by kernel_rfl : _ = val (aload T2 3 (.pointer (some ⟨H2.n, 0, none⟩)) H14_) H14_).trans (val_of ((aload_at gH14_H2_n).trans (by kernel_rfl)))) ?_
          refine cf_go 3 ?_
          refine cf_val 42 (.int .i64 4) H14_ (by kernel_rfl) ((by kernel_rfl : _ = val (aload T2 3 (.pointer (some ⟨H2.n, 0, none⟩)) H14_) H14_).trans (val_of ((aload_at gH14_H2_n).trans (by kernel_rfl)))) ?_
          refine cf_go 9 ?_
          refine cf_val 47 (.int .i64 ((a : Nat) : Int)) H14_ (by kernel_rfl) ((by kernel_rfl : _ = val (aload T2 3 (.pointer (some ⟨H2.n, 2, none⟩)) H14_) H14_).trans (val_of ((aload_at gH14_H2_n).trans (by kernel_rfl)))) ?_
          refine cf_go 6 ?_
          refine cf_see 6 (.bool true) (see_bool (by kernel_rfl) ((decide_eq_true (by omega)) : ((decide (((a : Nat) : Int) ≥ 0))) = true)) ?_
          refine cf_go 4 ?_
          have gH14_X : H14_.get (X) = some ⟨[Value.slice (some ⟨B0, 0, none⟩) c.length (unk + 3)], 31, false⟩ := by rw [hH14_, Heap.get_put, if_neg (by omega)]; rw [hH13_, Heap.get_push, if_neg (by omega)]; exact gX2
          refine cf_val 7 (.slice (some ⟨B0, 0, none⟩) c.length (unk + 3)) H14_ (by kernel_rfl) ((by kernel_rfl : _ = val (aload T2 31 (.pointer (some ⟨X, 0, none⟩)) H14_) H14_).trans (val_of ((aload_at gH14_X).trans (by kernel_rfl)))) ?_
          refine cf_go 1 ?_
          refine cf_val 9 (.slice (some ⟨B0, 0, none⟩) c.length (unk + 3)) H14_ (by kernel_rfl) ((by kernel_rfl : _ = val (aload T2 31 (.pointer (some ⟨X, 0, none⟩)) H14_) H14_).trans (val_of ((aload_at gH14_X).trans (by kernel_rfl)))) ?_
          refine cf_go 1 ?_
          refine cf_val 11 (.pointer (some ⟨B0, 0 + a * 3, none⟩)) H14_ (by kernel_rfl) ((by kernel_rfl : _ = val (bif (a : Nat).blt c.length then some (.pointer (some ⟨B0, 0 + a * 3, none⟩)) else none) H14_).trans (by rw [show (a : Nat).blt c.length = true from (by rw [blt_dec]; simp only [decide_eq_true_eq]; omega)]; rfl)) ?_
          obtain ⟨iv5, hiv5⟩ : ∃ i, (codeL maxat c k)[a]? = some i := ⟨_, List.getElem?_eq_getElem (by rw [hlB]; omega)⟩
          refine cf_go 1 ?_
          have gH14_B0 : H14_.get (B0) = some ⟨(ivs (codeL maxat c k)), 40, false⟩ := by rw [hH14_, Heap.get_put, if_neg (by omega)]; rw [hH13_, Heap.get_push, if_neg (by omega)]; exact gB0
          refine cf_val 13 (.int .i64 iv5.2.2) H14_ (by kernel_rfl) ((by kernel_rfl : _ = val (aload T2 3 (.pointer (some ⟨B0, 0 + a * 3 + 2, none⟩)) H14_) H14_).trans (val_of ((aload_at gH14_B0).trans (aloadC_cellB (n := 1) (by kernel_rfl) (by kernel_rfl) (ivs_cell _ _ _ 2 hiv5 (by decide)))))) ?_
          refine cf_go 2 ?_
          refine cf_see 15 (.int .i64 (max iv5.2.2 ((k : Nat) : Int))) (see_int (x := (if ((k : Nat) : Int) > iv5.2.2 then ((k : Nat) : Int) else iv5.2.2)) (by kernel_rfl) (by split <;> omega)) ?_
          refine cf_val 16 (.pointer (some ⟨B0, 0 + a * 3, none⟩)) H14_ (by kernel_rfl) ((by kernel_rfl : _ = val (bif (a : Nat).blt c.length then some (.pointer (some ⟨B0, 0 + a * 3, none⟩)) else none) H14_).trans (by rw [show (a : Nat).blt c.length = true from (by rw [blt_dec]; simp only [decide_eq_true_eq]; omega)]; rfl)) ?_
          have hw6 : (codeL maxat c k).set a (iv5.1, iv5.2.1, (max iv5.2.2 ((k : Nat) : Int))) = maxat (codeL maxat c k) a ((k : Nat) : Int) := maxat_eq ((k : Nat) : Int) hiv5
          have hl6 : (maxat (codeL maxat c k) a ((k : Nat) : Int)).length = c.length := by rw [maxat_len]; exact hlB
          refine cf_go 1 ?_
          obtain ⟨H15_, hH15_⟩ : ∃ x : Heap, x = H14_.put (B0) ⟨(ivs (maxat (codeL maxat c k) a ((k : Nat) : Int))), 40, false⟩ := ⟨_, rfl⟩
          have nH15_ : H15_.n = H14_.n := by rw [hH15_]; rfl
          refine cf_skip H15_ (by kernel_rfl) ((by kernel_rfl : _ = skp (astore T2 3 (.pointer (some ⟨B0, 0 + a * 3 + 2, none⟩)) (.int .i64 (max iv5.2.2 ((k : Nat) : Int))) H14_)).trans (by rw [astore_to gH14_B0 ((astoreC_one (by kernel_rfl) (by kernel_rfl) (by kernel_rfl) (by rw [ivs_len, hlB]; omega)).trans (by rw [ivs_set _ _ _ _ hiv5, hw6])), ← hH15_]; rfl)) ?_
          refine cf_go 7 ?_
          have gH15_H2_n : H15_.get (H2.n) = some ⟨[Value.int .i64 4, .int .i64 ((k : Nat) : Int), .int .i64 ((a : Nat) : Int), .int .i64 ((b : Nat) : Int), .int .u32 20], 50, false⟩ := by rw [hH15_, Heap.get_put, if_neg (by omega)]; exact gH14_H2_n
          refine cf_val 52 (.int .i64 ((b : Nat) : Int)) H15_ (by kernel_rfl) ((by kernel_rfl : _ = val (aload T2 3 (.pointer (some ⟨H2.n, 3, none⟩)) H15_) H15_).trans (val_of ((aload_at gH15_H2_n).trans (by kernel_rfl)))) ?_
          refine cf_go 6 ?_
          refine cf_see 6 (.bool true) (see_bool (by kernel_rfl) ((decide_eq_true (by omega)) : ((decide (((b : Nat) : Int) ≥ 0))) = true)) ?_
          refine cf_go 4 ?_
          have gH15_X : H15_.get (X) = some ⟨[Value.slice (some ⟨B0, 0, none⟩) c.length (unk + 3)], 31, false⟩ := by rw [hH15_, Heap.get_put, if_neg (by omega)]; exact gH14_X
          refine cf_val 7 (.slice (some ⟨B0, 0, none⟩) c.length (unk + 3)) H15_ (by kernel_rfl) ((by kernel_rfl : _ = val (aload T2 31 (.pointer (some ⟨X, 0, none⟩)) H15_) H15_).trans (val_of ((aload_at gH15_X).trans (by kernel_rfl)))) ?_
          refine cf_go 1 ?_
          refine cf_val 9 (.slice (some ⟨B0, 0, none⟩) c.length (unk + 3)) H15_ (by kernel_rfl) ((by kernel_rfl : _ = val (aload T2 31 (.pointer (some ⟨X, 0, none⟩)) H15_) H15_).trans (val_of ((aload_at gH15_X).trans (by kernel_rfl)))) ?_
          refine cf_go 1 ?_
          refine cf_val 11 (.pointer (some ⟨B0, 0 + b * 3, none⟩)) H15_ (by kernel_rfl) ((by kernel_rfl : _ = val (bif (b : Nat).blt c.length then some (.pointer (some ⟨B0, 0 + b * 3, none⟩)) else none) H15_).trans (by rw [show (b : Nat).blt c.length = true from (by rw [blt_dec]; simp only [decide_eq_true_eq]; omega)]; rfl)) ?_
          obtain ⟨iv7, hiv7⟩ : ∃ i, (maxat (codeL maxat c k) a ((k : Nat) : Int))[b]? = some i := ⟨_, List.getElem?_eq_getElem (by rw [hl6]; omega)⟩
          refine cf_go 1 ?_
          have gH15_B0 : H15_.get (B0) = some ⟨(ivs (maxat (codeL maxat c k) a ((k : Nat) : Int))), 40, false⟩ := by rw [hH15_]; exact (Heap.get_put _ _ _ _).trans (if_pos rfl)
          refine cf_val 13 (.int .i64 iv7.2.2) H15_ (by kernel_rfl) ((by kernel_rfl : _ = val (aload T2 3 (.pointer (some ⟨B0, 0 + b * 3 + 2, none⟩)) H15_) H15_).trans (val_of ((aload_at gH15_B0).trans (aloadC_cellB (n := 1) (by kernel_rfl) (by kernel_rfl) (ivs_cell _ _ _ 2 hiv7 (by decide)))))) ?_
          refine cf_go 2 ?_
          refine cf_see 15 (.int .i64 (max iv7.2.2 ((k : Nat) : Int))) (see_int (x := (if ((k : Nat) : Int) > iv7.2.2 then ((k : Nat) : Int) else iv7.2.2)) (by kernel_rfl) (by split <;> omega)) ?_
          refine cf_val 16 (.pointer (some ⟨B0, 0 + b * 3, none⟩)) H15_ (by kernel_rfl) ((by kernel_rfl : _ = val (bif (b : Nat).blt c.length then some (.pointer (some ⟨B0, 0 + b * 3, none⟩)) else none) H15_).trans (by rw [show (b : Nat).blt c.length = true from (by rw [blt_dec]; simp only [decide_eq_true_eq]; omega)]; rfl)) ?_
          have hw8 : (maxat (codeL maxat c k) a ((k : Nat) : Int)).set b (iv7.1, iv7.2.1, (max iv7.2.2 ((k : Nat) : Int))) = maxat (maxat (codeL maxat c k) a ((k : Nat) : Int)) b ((k : Nat) : Int) := maxat_eq ((k : Nat) : Int) hiv7
          have hl8 : (maxat (maxat (codeL maxat c k) a ((k : Nat) : Int)) b ((k : Nat) : Int)).length = c.length := by rw [maxat_len]; exact hl6
          refine cf_go 1 ?_
          obtain ⟨H16_, hH16_⟩ : ∃ x : Heap, x = H15_.put (B0) ⟨(ivs (maxat (maxat (codeL maxat c k) a ((k : Nat) : Int)) b ((k : Nat) : Int))), 40, false⟩ := ⟨_, rfl⟩
          have nH16_ : H16_.n = H15_.n := by rw [hH16_]; rfl
          refine cf_skip H16_ (by kernel_rfl) ((by kernel_rfl : _ = skp (astore T2 3 (.pointer (some ⟨B0, 0 + b * 3 + 2, none⟩)) (.int .i64 (max iv7.2.2 ((k : Nat) : Int))) H15_)).trans (by rw [astore_to gH15_B0 ((astoreC_one (by kernel_rfl) (by kernel_rfl) (by kernel_rfl) (by rw [ivs_len, hl6]; omega)).trans (by rw [ivs_set _ _ _ _ hiv7, hw8])), ← hH16_]; rfl)) ?_
          refine cf_go 7 ?_
          refine cf_see 55 (.int .i64 ((k + 1 : Nat) : Int)) (see_int (x := (IntKind.i64.wrap (((k : Nat) : Int) + 1))) (by kernel_rfl) (w64 (by omega) (by omega) (by omega))) ?_
          refine cf_go 2 ?_
          have gH16_H_n : H16_.get (H.n) = some ⟨[Value.slice (some ⟨A, 0, none⟩) c.length (unk + 5), .int .i64 0, .int .i64 0, .int .i64 0, .int .i64 0, (.slice po o.length co), .slice none 0 0, .int .i64 fl, .int .u32 0, .int .i64 (-1), .int .i64 0, .int .u32 0, .int .i64 1, .int .i64 ((c.length : Nat) : Int)], 29, false⟩ := by rw [hH16_, Heap.get_put, if_neg (by omega)]; rw [hH15_, Heap.get_put, if_neg (by omega)]; rw [hH14_, Heap.get_put, if_neg (by omega)]; rw [hH13_, Heap.get_push, if_neg (by omega)]; exact gP2
          have gH16_X : H16_.get (X) = some ⟨[Value.slice (some ⟨B0, 0, none⟩) c.length (unk + 3)], 31, false⟩ := by rw [hH16_, Heap.get_put, if_neg (by omega)]; exact gH15_X
          have gH16_B0 : H16_.get (B0) = some ⟨(ivs (maxat (maxat (codeL maxat c k) a ((k : Nat) : Int)) b ((k : Nat) : Int))), 40, false⟩ := by rw [hH16_]; exact (Heap.get_put _ _ _ _).trans (if_pos rfl)
          have hgr9 : Gr H16_ H.n 40 3 (.slice (some ⟨B0, 0, none⟩) c.length (unk + 3)) c.length (ivs (codeL maxat c (k + 1))) := by rw [codeL_succ _ _ _ _ hx]; exact Gr.iv gH16_B0 hl8 (by omega) hB0l
          refine cf_inv Rr2 (by kernel_rfl) (hRr2 _ ⟨c.length - (k + 1), by omega, k + 1, H16_, rfl, by omega, gH16_H_n, gH16_X, hgr9, by omega, (show Up H.n H H16_ from ⟨by omega, fun b hb => by rw [hH16_, Heap.get_put, if_neg (by omega), hH15_, Heap.get_put, if_neg (by omega), hH14_, Heap.get_put, if_neg (by omega), hH13_, Heap.get_push, if_neg (by omega), uH2.get _ (by omega)]⟩), ⟨(by kernel_rfl), (by kernel_rfl), (by kernel_rfl), (by kernel_rfl), (by kernel_rfl), (by kernel_rfl), (by kernel_rfl), True.intro⟩, (by kernel_rfl)⟩)
    · skip
      obtain rfl : k = c.length := by omega
      refine cf_go 3 ?_
      refine cf_see 33 (.bool false) (see_bool (by kernel_rfl) ((decide_eq_false (by omega)) : ((decide (((c.length : Nat) : Int) < ((c.length : Nat) : Int)))) = false)) ?_
      refine cf_go 13 ?_
      refine cf_val 57 ((.slice po o.length co)) H2 (by kernel_rfl) ((by kernel_rfl : _ = val (aload T2 22 (.pointer (some ⟨H.n, 5, none⟩)) H2) H2).trans (val_of ((aload_at gP2).trans (by kernel_rfl)))) ?_
      refine cf_go 1 ?_
      refine cf_val 59 (.slice none 0 0) H2 (by kernel_rfl) ((by kernel_rfl : _ = val (aload T2 22 (.pointer (some ⟨H.n, 6, none⟩)) H2) H2).trans (val_of ((aload_at gP2).trans (by kernel_rfl)))) ?_
      refine cf_go 1 ?_
      refine cf_val 61 (.int .i64 fl) H2 (by kernel_rfl) ((by kernel_rfl : _ = val (aload T2 3 (.pointer (some ⟨H.n, 7, none⟩)) H2) H2).trans (val_of ((aload_at gP2).trans (by kernel_rfl)))) ?_
      refine cf_go 1 ?_
      refine cf_val 63 (.int .i64 (-1)) H2 (by kernel_rfl) ((by kernel_rfl : _ = val (aload T2 3 (.pointer (some ⟨H.n, 9, none⟩)) H2) H2).trans (val_of ((aload_at gP2).trans (by kernel_rfl)))) ?_
      obtain ⟨H17_, hH17_⟩ : ∃ x : Heap, x = H2.push ⟨[Value.int .i64 fl, .int .i64 (-1)], 3, false⟩ := ⟨_, rfl⟩
      have nH17_ : H17_.n = H2.n + 1 := by rw [hH17_]; rfl
      refine cf_val 64 (.slice (some ⟨H2.n, 0, none⟩) 2 2) H17_ (by kernel_rfl) ((by kernel_rfl : _ = some (Res.val (.slice (some ⟨H2.n, 0, none⟩) 2 2), H2.push ⟨[Value.int .i64 fl, .int .i64 (-1)], 3, false⟩)).trans (by rw [← hH17_])) ?_
      obtain ⟨H18_, hH18_⟩ : ∃ x : Heap, x = H17_.push ⟨[(.slice po o.length co), .slice none 0 0, .slice (some ⟨H2.n, 0, none⟩) 2 2], 22, false⟩ := ⟨_, rfl⟩
      have nH18_ : H18_.n = H17_.n + 1 := by rw [hH18_]; rfl
      refine cf_val 65 (.slice (some ⟨H17_.n, 0, none⟩) 3 3) H18_ (by kernel_rfl) ((by kernel_rfl : _ = some (Res.val (.slice (some ⟨H17_.n, 0, none⟩) 3 3), H17_.push ⟨[(.slice po o.length co), .slice none 0 0, .slice (some ⟨H2.n, 0, none⟩) 2 2], 22, false⟩)).trans (by rw [← hH18_])) ?_
      refine cf_go 20 ?_
      have gH18_H17__n : H18_.get (H17_.n) = some ⟨[(.slice po o.length co), .slice none 0 0, .slice (some ⟨H2.n, 0, none⟩) 2 2], 22, false⟩ := by rw [hH18_]; exact (Heap.get_push _ _ _).trans (if_pos rfl)
      refine cf_val 70 ((.slice po o.length co)) H18_ (by kernel_rfl) ((by kernel_rfl : _ = val (aload T2 22 (.pointer (some ⟨H17_.n, 0, none⟩)) H18_) H18_).trans (val_of ((aload_at gH18_H17__n).trans (by kernel_rfl)))) ?_
      refine cf_go 11 ?_
      have gH18_H_n : H18_.get (H.n) = some ⟨[(.slice pc c.length cc), .int .i64 0, .int .i64 0, .int .i64 0, .int .i64 0, (.slice po o.length co), .slice none 0 0, .int .i64 fl, .int .u32 0, .int .i64 (-1), .int .i64 0, .int .u32 0, .int .i64 1, .int .i64 ((c.length : Nat) : Int)], 29, false⟩ := by rw [hH18_, Heap.get_push, if_neg (by omega)]; rw [hH17_, Heap.get_push, if_neg (by omega)]; exact gP2
      have gH18_X : H18_.get (X) = some ⟨[(.slice pv c.length cv)], 31, false⟩ := by rw [hH18_, Heap.get_push, if_neg (by omega)]; rw [hH17_, Heap.get_push, if_neg (by omega)]; exact gX2
      have gH18_H2_n : H18_.get (H2.n) = some ⟨[Value.int .i64 fl, .int .i64 (-1)], 3, false⟩ := by rw [hH18_, Heap.get_push, if_neg (by omega)]; rw [hH17_]; exact (Heap.get_push _ _ _).trans (if_pos rfl)
      obtain ⟨TB, hTB⟩ : ∃ D, D = H17_.n := ⟨_, rfl⟩
      obtain ⟨FB, hFB⟩ : ∃ D, D = H2.n := ⟨_, rfl⟩
      rw [← hTB] at gH18_H17__n
      rw [← hFB] at gH18_H17__n gH18_H2_n
      refine cf_loop 86 (cl (cl (cr (cr (cl (cl (cr (cr (cl (cl (cr (cl (cr (cr (cr (cr (cr (cr f10b)))))))))))))))))) [.blk 6, .blk 5, .next (cr (cr (cr (cl (cl (cr (cl (cr (cr (cr (cr (cr (cr f10b))))))))))))), .loop (cl (cl (cr (cl (cr (cr (cr (cr (cr (cr f10b)))))))))), .blk 4, .next (cr (cr (cr (cr (cr (cr (cr f10b)))))))] (by kernel_rfl) (by kernel_rfl) (by kernel_rfl) (fun m9 s9 => ∃ (j : Nat) (H3 : Heap), m9 = o.length - j ∧ j ≤ o.length ∧ H3.get H.n = some ⟨[(.slice pc c.length cc), .int .i64 0, .int .i64 0, .int .i64 0, .int .i64 0, (.slice po o.length co), .slice none 0 0, .int .i64 fl, .int .u32 0, .int .i64 (-1), .int .i64 0, .int .u32 0, .int .i64 1, .int .i64 ((c.length : Nat) : Int)], 29, false⟩ ∧ H3.get X = some ⟨[(.slice pv c.length cv)], 31, false⟩ ∧ H3.get TB = some ⟨[(.slice po o.length co), .slice none 0 0, .slice (some ⟨FB, 0, none⟩) 2 2], 22, false⟩ ∧ H3.get FB = some ⟨[Value.int .i64 fl, .int .i64 (-1)], 3, false⟩ ∧ Gr H3 H.n 40 3 (.slice pv c.length cv) c.length (ivs (outL maxat c.length (codeL maxat c c.length) (o.take j))) ∧ X < H3.n ∧ TB < H3.n ∧ FB < H3.n ∧ X < FB ∧ X < TB ∧ FB ≠ TB ∧ Up H.n H H3 ∧ Kn s9.tm [(1, .pointer (some ⟨H.n, 0, none⟩)), (2, .slice none 0 0), (3, .pointer (some ⟨X, 0, none⟩)), (5, .func (.func 21) #[] #[.pointer (some ⟨X, 0, none⟩)]), (65, .slice (some ⟨TB, 0, none⟩) 3 3), (66, .int .i64 3), (67, .int .i64 0), (71, (.slice po o.length co)), (72, .int .i64 ((o.length : Nat) : Int)), (73, .int .i64 ((j : Nat) : Int))] ∧ s9.H = H3) (o.length) ⟨0, H18_, by omega, by omega, gH18_H_n, gH18_X, gH18_H17__n, gH18_H2_n, (Gr.keep1 hgv2 gX2 (by decide) (by omega) (fun b hb1 hb2 hb3 => by rw [hH18_, Heap.get_push, if_neg (by omega), hH17_, Heap.get_push, if_neg (by omega)])), by omega, by omega, by omega, by omega, by omega, by omega, (show Up H.n H H18_ from ⟨by omega, fun b hb => by rw [hH18_, Heap.get_push, if_neg (by omega), hH17_, Heap.get_push, if_neg (by omega), uH2.get _ (by omega)]⟩), ⟨(by kernel_rfl), (by kernel_rfl), (by kernel_rfl), (by kernel_rfl), (by rw [hTB]; kernel_rfl), (by kernel_rfl), (by kernel_rfl), (by kernel_rfl), (by kernel_rfl), (by kernel_rfl), True.intro⟩, (by kernel_rfl)⟩ ?_
      rintro m9 s9 ⟨j, H3, hm3, hj, gP3, gX3, gTB, gFB, hgv3, bX4, bTB, bFB, bXF, bXT, nFT, uH3, hkn, hH⟩ Rr3 hRr3
      refine cf_kn [(1, .pointer (some ⟨H.n, 0, none⟩)), (2, .slice none 0 0), (3, .pointer (some ⟨X, 0, none⟩)), (5, .func (.func 21) #[] #[.pointer (some ⟨X, 0, none⟩)]), (65, .slice (some ⟨TB, 0, none⟩) 3 3), (66, .int .i64 3), (67, .int .i64 0), (71, (.slice po o.length co)), (72, .int .i64 ((o.length : Nat) : Int)), (73, .int .i64 ((j : Nat) : Int))] hkn hH fun tm => ?_
      have nH3 := uH3.n
      have hlD : (outL maxat c.length (codeL maxat c c.length) (o.take j)).length = c.length := by rw [outL_len maxat_len, codeL_len maxat_len]
      by_cases hlt2 : j < o.length
      · skip
        obtain ⟨x, hx⟩ : ∃ x, o[j]? = some x := ⟨_, List.getElem?_eq_getElem hlt2⟩
        have hxo := hok.outs j x hx
        obtain ⟨xn, rfl⟩ := Int.eq_ofNat_of_zero_le hxo.1
        rcases hgo.at_ with ⟨_, h0⟩ | ⟨B, heB, gAB, hAB, _⟩
        · omega
        obtain ⟨rfl, rfl⟩ : po = some ⟨B, 0, none⟩ ∧ co = unk + 1 := by injection heB with e1 _ e3; exact ⟨e1, e3⟩
        have cx : (o.map (Value.int .i64))[0 + j * 1]? = some (.int .i64 ((xn : Nat) : Int)) := by rw [List.getElem?_map, show 0 + j * 1 = j by omega, hx]; rfl
        have hv0 := hgv3
        have nvH_n := fun B c k h9 => Gr.neT hv0 gP3 (by decide) B c k h9
        have nvX := fun B c k h9 => Gr.neT hv0 gX3 (by decide) B c k h9
        have nvTB := fun B c k h9 => Gr.neT hv0 gTB (by decide) B c k h9
        have nvFB := fun B c k h9 => Gr.neT hv0 gFB (by decide) B c k h9
        rcases hv0.at_ with ⟨_, h0⟩ | ⟨B0, heB0, gB0, hB0, hB0l⟩
        · omega
        have nvH_n := nvH_n B0 _ _ heB0
        have nvX := nvX B0 _ _ heB0
        have nvTB := nvTB B0 _ _ heB0
        have nvFB := nvFB B0 _ _ heB0
        obtain ⟨rfl, rfl⟩ : pv = some ⟨B0, 0, none⟩ ∧ cv = unk + 3 := by injection heB0 with e1 _ e3; exact ⟨e1, e3⟩
        refine cf_go 3 ?_
        refine cf_see 74 (.bool true) (see_bool (by kernel_rfl) ((decide_eq_true (by omega)) : ((decide (((j : Nat) : Int) < ((o.length : Nat) : Int)))) = true)) ?_
        refine cf_go 10 ?_
        refine cf_val 75 (.pointer (some ⟨B, 0 + j * 1, none⟩)) H3 (by kernel_rfl) ((by kernel_rfl : _ = val (bif (j : Nat).blt o.length then some (.pointer (some ⟨B, 0 + j * 1, none⟩)) else none) H3).trans (by rw [show (j : Nat).blt o.length = true from (by rw [blt_dec]; simp only [decide_eq_true_eq]; omega)]; rfl)) ?_
        have gH3B : H3.get (B) = some ⟨(o.map (Value.int .i64)), 3, false⟩ := by rw [uH3.get _ (by omega)]; exact gAB
        refine cf_val 76 (.int .i64 ((xn : Nat) : Int)) H3 (by kernel_rfl) ((by kernel_rfl : _ = val (aload T2 3 (.pointer (some ⟨B, 0 + j * 1, none⟩)) H3) H3).trans (val_of ((aload_at gH3B).trans (aloadC_cellB (n := 1) (by kernel_rfl) (by kernel_rfl) cx)))) ?_
        refine cf_go 7 ?_
        refine cf_val 80 ((.slice pc c.length cc)) H3 (by kernel_rfl) ((by kernel_rfl : _ = val (aload T2 26 (.pointer (some ⟨H.n, 0, none⟩)) H3) H3).trans (val_of ((aload_at gP3).trans (by kernel_rfl)))) ?_
        refine cf_go 6 ?_
        refine cf_see 6 (.bool true) (see_bool (by kernel_rfl) ((decide_eq_true (by omega)) : ((decide (((xn : Nat) : Int) ≥ 0))) = true)) ?_
        refine cf_go 4 ?_
        refine cf_val 7 (.slice (some ⟨B0, 0, none⟩) c.length (unk + 3)) H3 (by kernel_rfl) ((by kernel_rfl : _ = val (aload T2 31 (.pointer (some ⟨X, 0, none⟩)) H3) H3).trans (val_of ((aload_at gX3).trans (by kernel_rfl)))) ?_
        refine cf_go 1 ?_
        refine cf_val 9 (.slice (some ⟨B0, 0, none⟩) c.length (unk + 3)) H3 (by kernel_rfl) ((by kernel_rfl : _ = val (aload T2 31 (.pointer (some ⟨X, 0, none⟩)) H3) H3).trans (val_of ((aload_at gX3).trans (by kernel_rfl)))) ?_
        refine cf_go 1 ?_
        refine cf_val 11 (.pointer (some ⟨B0, 0 + xn * 3, none⟩)) H3 (by kernel_rfl) ((by kernel_rfl : _ = val (bif (xn : Nat).blt c.length then some (.pointer (some ⟨B0, 0 + xn * 3, none⟩)) else none) H3).trans (by rw [show (xn : Nat).blt c.length = true from (by rw [blt_dec]; simp only [decide_eq_true_eq]; omega)]; rfl)) ?_
        obtain ⟨iv9, hiv9⟩ : ∃ i, (outL maxat c.length (codeL maxat c c.length) (o.take j))[xn]? = some i := ⟨_, List.getElem?_eq_getElem (by rw [hlD]; omega)⟩
        refine cf_go 1 ?_
        refine cf_val 13 (.int .i64 iv9.2.2) H3 (by kernel_rfl) ((by kernel_rfl : _ = val (aload T2 3 (.pointer (some ⟨B0, 0 + xn * 3 + 2, none⟩)) H3) H3).trans (val_of ((aload_at gB0).trans (aloadC_cellB (n := 1) (by kernel_rfl) (by kernel_rfl) (ivs_cell _ _ _ 2 hiv9 (by decide)))))) ?_
        refine cf_go 2 ?_
        refine cf_see 15 (.int .i64 (max iv9.2.2 ((c.length : Nat) : Int))) (see_int (x := (if ((c.length : Nat) : Int) > iv9.2.2 then ((c.length : Nat) : Int) else iv9.2.2)) (by kernel_rfl) (by split <;> omega)) ?_
        refine cf_val 16 (.pointer (some ⟨B0, 0 + xn * 3, none⟩)) H3 (by kernel_rfl) ((by kernel_rfl : _ = val (bif (xn : Nat).blt c.length then some (.pointer (some ⟨B0, 0 + xn * 3, none⟩)) else none) H3).trans (by rw [show (xn : Nat).blt c.length = true from (by rw [blt_dec]; simp only [decide_eq_true_eq]; omega)]; rfl)) ?_
        have hw10 : (outL maxat c.length (codeL maxat c c.length) (o.take j)).set xn (iv9.1, iv9.2.1, (max iv9.2.2 ((c.length : Nat) : Int))) = maxat (outL maxat c.length (codeL maxat c c.length) (o.take j)) xn ((c.length : Nat) : Int) := maxat_eq ((c.length : Nat) : Int) hiv9
        have hl10 : (maxat (outL maxat c.length (codeL maxat c c.length) (o.take j)) xn ((c.length : Nat) : Int)).length = c.length := by rw [maxat_len]; exact hlD
        refine cf_go 1 ?_
        obtain ⟨H19_, hH19_⟩ : ∃ x : Heap, x = H3.put (B0) ⟨(ivs (maxat (outL maxat c.length (codeL maxat c c.length) (o.take j)) xn ((c.length : Nat) : Int))), 40, false⟩ := ⟨_, rfl⟩
        have nH19_ : H19_.n = H3.n := by rw [hH19_]; rfl
        refine cf_skip H19_ (by kernel_rfl) ((by kernel_rfl : _ = skp (astore T2 3 (.pointer (some ⟨B0, 0 + xn * 3 + 2, none⟩)) (.int .i64 (max iv9.2.2 ((c.length : Nat) : Int))) H3)).trans (by rw [astore_to gB0 ((astoreC_one (by kernel_rfl) (by kernel_rfl) (by kernel_rfl) (by rw [ivs_len, hlD]; omega)).trans (by rw [ivs_set _ _ _ _ hiv9, hw10])), ← hH19_]; rfl)) ?_
        refine cf_go 7 ?_
        refine cf_see 83 (.int .i64 ((j + 1 : Nat) : Int)) (see_int (x := (IntKind.i64.wrap (((j : Nat) : Int) + 1))) (by kernel_rfl) (w64 (by omega) (by omega) (by omega))) ?_
        refine cf_go 2 ?_
        have gH19_H_n : H19_.get (H.n) = some ⟨[(.slice pc c.length cc), .int .i64 0, .int .i64 0, .int .i64 0, .int .i64 0, .slice (some ⟨B, 0, none⟩) o.length (unk + 1), .slice none 0 0, .int .i64 fl, .int .u32 0, .int .i64 (-1), .int .i64 0, .int .u32 0, .int .i64 1, .int .i64 ((c.length : Nat) : Int)], 29, false⟩ := by rw [hH19_, Heap.get_put, if_neg (by omega)]; exact gP3
        have gH19_X : H19_.get (X) = some ⟨[Value.slice (some ⟨B0, 0, none⟩) c.length (unk + 3)], 31, false⟩ := by rw [hH19_, Heap.get_put, if_neg (by omega)]; exact gX3
        have gH19_TB : H19_.get (TB) = some ⟨[Value.slice (some ⟨B, 0, none⟩) o.length (unk + 1), .slice none 0 0, .slice (some ⟨FB, 0, none⟩) 2 2], 22, false⟩ := by rw [hH19_, Heap.get_put, if_neg (by omega)]; exact gTB
        have gH19_FB : H19_.get (FB) = some ⟨[Value.int .i64 fl, .int .i64 (-1)], 3, false⟩ := by rw [hH19_, Heap.get_put, if_neg (by omega)]; exact gFB
        have gH19_B0 : H19_.get (B0) = some ⟨(ivs (maxat (outL maxat c.length (codeL maxat c c.length) (o.take j)) xn ((c.length : Nat) : Int))), 40, false⟩ := by rw [hH19_]; exact (Heap.get_put _ _ _ _).trans (if_pos rfl)
        have hgr9 : Gr H19_ H.n 40 3 (.slice (some ⟨B0, 0, none⟩) c.length (unk + 3)) c.length (ivs (outL maxat c.length (codeL maxat c c.length) (o.take (j + 1)))) := by rw [outL_succ _ _ _ _ _ _ hx]; exact Gr.iv gH19_B0 hl10 (by omega) hB0l
        refine cf_inv Rr3 (by kernel_rfl) (hRr3 _ ⟨o.length - (j + 1), by omega, j + 1, H19_, rfl, by omega, gH19_H_n, gH19_X, gH19_TB, gH19_FB, hgr9, by omega, by omega, by omega, by omega, by omega, by omega, (show Up H.n H H19_ from ⟨by omega, fun b hb => by rw [hH19_, Heap.get_put, if_neg (by omega), uH3.get _ (by omega)]⟩), ⟨(by kernel_rfl), (by kernel_rfl), (by kernel_rfl), (by kernel_rfl), (by kernel_rfl), (by kernel_rfl), (by kernel_rfl), (by kernel_rfl), (by kernel_rfl), (by kernel_rfl), True.intro⟩, (by kernel_rfl)⟩)
      · skip
        obtain rfl : j = o.length := by omega
        rw [List.take_length] at hgv3 hlD
        rcases hfl with rfl | hfl
        · skip
          refine cf_go 3 ?_
          refine cf_see 74 (.bool false) (see_bool (by kernel_rfl) ((decide_eq_false (by omega)) : ((decide (((o.length : Nat) : Int) < ((o.length : Nat) : Int)))) = false)) ?_
          refine cf_go 30 ?_
          refine cf_val 70 (.slice none 0 0) H3 (by kernel_rfl) ((by kernel_rfl : _ = val (aload T2 22 (.pointer (some ⟨TB, 1, none⟩)) H3) H3).trans (val_of ((aload_at gTB).trans (by kernel_rfl)))) ?_
          refine cf_go 11 ?_
          refine cf_go 34 ?_
          refine cf_val 70 (.slice (some ⟨FB, 0, none⟩) 2 2) H3 (by kernel_rfl) ((by kernel_rfl : _ = val (aload T2 22 (.pointer (some ⟨TB, 2, none⟩)) H3) H3).trans (val_of ((aload_at gTB).trans (by kernel_rfl)))) ?_
          refine cf_go 11 ?_
          refine cf_go 15 ?_
          refine cf_val 76 (.int .i64 (-1)) H3 (by kernel_rfl) ((by kernel_rfl : _ = val (aload T2 3 (.pointer (some ⟨FB, 0, none⟩)) H3) H3).trans (val_of ((aload_at gFB).trans (by kernel_rfl)))) ?_
          refine cf_go 7 ?_
          refine cf_val 80 ((.slice pc c.length cc)) H3 (by kernel_rfl) ((by kernel_rfl : _ = val (aload T2 26 (.pointer (some ⟨H.n, 0, none⟩)) H3) H3).trans (val_of ((aload_at gP3).trans (by kernel_rfl)))) ?_
          refine cf_go 19 ?_
          refine cf_go 15 ?_
          refine cf_val 76 (.int .i64 (-1)) H3 (by kernel_rfl) ((by kernel_rfl : _ = val (aload T2 3 (.pointer (some ⟨FB, 1, none⟩)) H3) H3).trans (val_of ((aload_at gFB).trans (by kernel_rfl)))) ?_
          refine cf_go 7 ?_
          refine cf_val 80 ((.slice pc c.length cc)) H3 (by kernel_rfl) ((by kernel_rfl : _ = val (aload T2 26 (.pointer (some ⟨H.n, 0, none⟩)) H3) H3).trans (val_of ((aload_at gP3).trans (by kernel_rfl)))) ?_
          refine cf_go 19 ?_
          refine cf_go 34 ?_
          refine cf_val 85 ((.slice pv c.length cv)) H3 (by kernel_rfl) ((by kernel_rfl : _ = val (aload T2 31 (.pointer (some ⟨X, 0, none⟩)) H3) H3).trans (val_of ((aload_at gX3).trans (by kernel_rfl)))) ?_
          refine cf_go 4 ?_
          refine cf_end ((.slice pv c.length cv)) H3 (by kernel_rfl) (by kernel_rfl) (by kernel_rfl) ?_
          exact ⟨pv, cv, rfl, by unfold ofL; rw [if_neg (by omega)]; exact hgv3, (show Up H.n H H3 from ⟨by omega, fun b hb => by rw [uH3.get _ (by omega)]⟩)⟩
        · skip
          obtain ⟨fn, rfl⟩ := Int.eq_ofNat_of_zero_le hfl.1
          have hv0 := hgv3
          have nvH_n := fun B c k h9 => Gr.neT hv0 gP3 (by decide) B c k h9
          have nvX := fun B c k h9 => Gr.neT hv0 gX3 (by decide) B c k h9
          have nvTB := fun B c k h9 => Gr.neT hv0 gTB (by decide) B c k h9
          have nvFB := fun B c k h9 => Gr.neT hv0 gFB (by decide) B c k h9
          rcases hv0.at_ with ⟨_, h0⟩ | ⟨B0, heB0, gB0, hB0, hB0l⟩
          · omega
          have nvH_n := nvH_n B0 _ _ heB0
          have nvX := nvX B0 _ _ heB0
          have nvTB := nvTB B0 _ _ heB0
          have nvFB := nvFB B0 _ _ heB0
          obtain ⟨rfl, rfl⟩ : pv = some ⟨B0, 0, none⟩ ∧ cv = unk + 3 := by injection heB0 with e1 _ e3; exact ⟨e1, e3⟩
          refine cf_go 3 ?_
          refine cf_see 74 (.bool false) (see_bool (by kernel_rfl) ((decide_eq_false (by omega)) : ((decide (((o.length : Nat) : Int) < ((o.length : Nat) : Int)))) = false)) ?_
          refine cf_go 30 ?_
          refine cf_val 70 (.slice none 0 0) H3 (by kernel_rfl) ((by kernel_rfl : _ = val (aload T2 22 (.pointer (some ⟨TB, 1, none⟩)) H3) H3).trans (val_of ((aload_at gTB).trans (by kernel_rfl)))) ?_
          refine cf_go 11 ?_
          refine cf_go 34 ?_
          refine cf_val 70 (.slice (some ⟨FB, 0, none⟩) 2 2) H3 (by kernel_rfl) ((by kernel_rfl : _ = val (aload T2 22 (.pointer (some ⟨TB, 2, none⟩)) H3) H3).trans (val_of ((aload_at gTB).trans (by kernel_rfl)))) ?_
          refine cf_go 11 ?_
          refine cf_go 15 ?_
          refine cf_val 76 (.int .i64 ((fn : Nat) : Int)) H3 (by kernel_rfl) ((by kernel_rfl : _ = val (aload T2 3 (.pointer (some ⟨FB, 0, none⟩)) H3) H3).trans (val_of ((aload_at gFB).trans (by kernel_rfl)))) ?_
          refine cf_go 7 ?_
          refine cf_val 80 ((.slice pc c.length cc)) H3 (by kernel_rfl) ((by kernel_rfl : _ = val (aload T2 26 (.pointer (some ⟨H.n, 0, none⟩)) H3) H3).trans (val_of ((aload_at gP3).trans (by kernel_rfl)))) ?_
          refine cf_go 6 ?_
          refine cf_see 6 (.bool true) (see_bool (by kernel_rfl) ((decide_eq_true (by omega)) : ((decide (((fn : Nat) : Int) ≥ 0))) = true)) ?_
          refine cf_go 4 ?_
          refine cf_val 7 (.slice (some ⟨B0, 0, none⟩) c.length (unk + 3)) H3 (by kernel_rfl) ((by kernel_rfl : _ = val (aload T2 31 (.pointer (some ⟨X, 0, none⟩)) H3) H3).trans (val_of ((aload_at gX3).trans (by kernel_rfl)))) ?_
          refine cf_go 1 ?_
          refine cf_val 9 (.slice (some ⟨B0, 0, none⟩) c.length (unk + 3)) H3 (by kernel_rfl) ((by kernel_rfl : _ = val (aload T2 31 (.pointer (some ⟨X, 0, none⟩)) H3) H3).trans (val_of ((aload_at gX3).trans (by kernel_rfl)))) ?_
          refine cf_go 1 ?_
          refine cf_val 11 (.pointer (some ⟨B0, 0 + fn * 3, none⟩)) H3 (by kernel_rfl) ((by kernel_rfl : _ = val (bif (fn : Nat).blt c.length then some (.pointer (some ⟨B0, 0 + fn * 3, none⟩)) else none) H3).trans (by rw [show (fn : Nat).blt c.length = true from (by rw [blt_dec]; simp only [decide_eq_true_eq]; omega)]; rfl)) ?_
          obtain ⟨iv11, hiv11⟩ : ∃ i, (outL maxat c.length (codeL maxat c c.length) o)[fn]? = some i := ⟨_, List.getElem?_eq_getElem (by rw [hlD]; omega)⟩
          refine cf_go 1 ?_
          refine cf_val 13 (.int .i64 iv11.2.2) H3 (by kernel_rfl) ((by kernel_rfl : _ = val (aload T2 3 (.pointer (some ⟨B0, 0 + fn * 3 + 2, none⟩)) H3) H3).trans (val_of ((aload_at gB0).trans (aloadC_cellB (n := 1) (by kernel_rfl) (by kernel_rfl) (ivs_cell _ _ _ 2 hiv11 (by decide)))))) ?_
          refine cf_go 2 ?_
          refine cf_see 15 (.int .i64 (max iv11.2.2 ((c.length : Nat) : Int))) (see_int (x := (if ((c.length : Nat) : Int) > iv11.2.2 then ((c.length : Nat) : Int) else iv11.2.2)) (by kernel_rfl) (by split <;> omega)) ?_
          refine cf_val 16 (.pointer (some ⟨B0, 0 + fn * 3, none⟩)) H3 (by kernel_rfl) ((by kernel_rfl : _ = val (bif (fn : Nat).blt c.length then some (.pointer (some ⟨B0, 0 + fn * 3, none⟩)) else none) H3).trans (by rw [show (fn : Nat).blt c.length = true from (by rw [blt_dec]; simp only [decide_eq_true_eq]; omega)]; rfl)) ?_
          have hw12 : (outL maxat c.length (codeL maxat c c.length) o).set fn (iv11.1, iv11.2.1, (max iv11.2.2 ((c.length : Nat) : Int))) = maxat (outL maxat c.length (codeL maxat c c.length) o) fn ((c.length : Nat) : Int) := maxat_eq ((c.length : Nat) : Int) hiv11
          have hl12 : (maxat (outL maxat c.length (codeL maxat c c.length) o) fn ((c.length : Nat) : Int)).length = c.length := by rw [maxat_len]; exact hlD
          refine cf_go 1 ?_
          obtain ⟨H20_, hH20_⟩ : ∃ x : Heap, x = H3.put (B0) ⟨(ivs (maxat (outL maxat c.length (codeL maxat c c.length) o) fn ((c.length : Nat) : Int))), 40, false⟩ := ⟨_, rfl⟩
          have nH20_ : H20_.n = H3.n := by rw [hH20_]; rfl
          refine cf_skip H20_ (by kernel_rfl) ((by kernel_rfl : _ = skp (astore T2 3 (.pointer (some ⟨B0, 0 + fn * 3 + 2, none⟩)) (.int .i64 (max iv11.2.2 ((c.length : Nat) : Int))) H3)).trans (by rw [astore_to gB0 ((astoreC_one (by kernel_rfl) (by kernel_rfl) (by kernel_rfl) (by rw [ivs_len, hlD]; omega)).trans (by rw [ivs_set _ _ _ _ hiv11, hw12])), ← hH20_]; rfl)) ?_
          refine cf_go 10 ?_
          refine cf_go 15 ?_
          have gH20_FB : H20_.get (FB) = some ⟨[Value.int .i64 ((fn : Nat) : Int), .int .i64 (-1)], 3, false⟩ := by rw [hH20_, Heap.get_put, if_neg (by omega)]; exact gFB
          refine cf_val 76 (.int .i64 (-1)) H20_ (by kernel_rfl) ((by kernel_rfl : _ = val (aload T2 3 (.pointer (some ⟨FB, 1, none⟩)) H20_) H20_).trans (val_of ((aload_at gH20_FB).trans (by kernel_rfl)))) ?_
          refine cf_go 7 ?_
          have gH20_H_n : H20_.get (H.n) = some ⟨[(.slice pc c.length cc), .int .i64 0, .int .i64 0, .int .i64 0, .int .i64 0, (.slice po o.length co), .slice none 0 0, .int .i64 ((fn : Nat) : Int), .int .u32 0, .int .i64 (-1), .int .i64 0, .int .u32 0, .int .i64 1, .int .i64 ((c.length : Nat) : Int)], 29, false⟩ := by rw [hH20_, Heap.get_put, if_neg (by omega)]; exact gP3
          refine cf_val 80 ((.slice pc c.length cc)) H20_ (by kernel_rfl) ((by kernel_rfl : _ = val (aload T2 26 (.pointer (some ⟨H.n, 0, none⟩)) H20_) H20_).trans (val_of ((aload_at gH20_H_n).trans (by kernel_rfl)))) ?_
          refine cf_go 19 ?_
          refine cf_go 34 ?_
          have gH20_X : H20_.get (X) = some ⟨[Value.slice (some ⟨B0, 0, none⟩) c.length (unk + 3)], 31, false⟩ := by rw [hH20_, Heap.get_put, if_neg (by omega)]; exact gX3
          refine cf_val 85 (.slice (some ⟨B0, 0, none⟩) c.length (unk + 3)) H20_ (by kernel_rfl) ((by kernel_rfl : _ = val (aload T2 31 (.pointer (some ⟨X, 0, none⟩)) H20_) H20_).trans (val_of ((aload_at gH20_X).trans (by kernel_rfl)))) ?_
          refine cf_go 4 ?_
          have gH20_B0 : H20_.get (B0) = some ⟨(ivs (maxat (outL maxat c.length (codeL maxat c c.length) o) fn ((c.length : Nat) : Int))), 40, false⟩ := by rw [hH20_]; exact (Heap.get_put _ _ _ _).trans (if_pos rfl)
          refine cf_end (.slice (some ⟨B0, 0, none⟩) c.length (unk + 3)) H20_ (by kernel_rfl) (by kernel_rfl) (by kernel_rfl) ?_
          exact ⟨_, _, rfl, by unfold ofL; rw [if_pos (by omega)]; exact Gr.iv gH20_B0 hl12 (by omega) hB0l, (show Up H.n H H20_ from ⟨by omega, fun b hb => by rw [hH20_, Heap.get_put, if_neg (by omega), uH3.get _ (by omega)]⟩)⟩
end Lm
end Go.Proofs.Ytahikechkggbfaa
