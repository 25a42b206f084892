/- Chapter 20: LiveTells. -/
import Derived.Test.YtahikechkggbfaaLl
namespace Go.Proofs.Ytahikechkggbfaa
open Go Go.Ev Go.RowKit
set_option linter.unusedVariables false
set_option linter.unusedSimpArgs false
set_option maxRecDepth 100000
namespace Lm
noncomputable def f4b : Code := Try.f4.body.getD .skip
theorem f4_body : Try.f4.body = some f4b := by kernel_rfl
theorem f4_fn : T2.fn 4 = some Try.f4 := by kernel_rfl
set_option maxHeartbeats 4000000 in
theorem tells_at [Bs] {H : Heap} {ops az bs outs : List Int} {pt1 pt2 pt3 pt4 : Option Addr} {cap1 cap2 cap3 cap4 : Nat} {fl : Int} {wr : Bool} {sp : List (Int × Int)} {ps : Option Addr} {cs : Nat} (hN1 : NumsA H .i64 (.slice pt1 ops.length cap1) ops) (hr1 : ∀ x ∈ ops, i64B x = true) (hN2 : NumsA H .i64 (.slice pt2 az.length cap2) az) (hr2 : ∀ x ∈ az, i64B x = true) (hN3 : NumsA H .i64 (.slice pt3 bs.length cap3) bs) (hr3 : ∀ x ∈ bs, i64B x = true) (hN4 : NumsA H .i64 (.slice pt4 outs.length cap4) outs) (hr4 : ∀ x ∈ outs, i64B x = true) (hf : i64B fl = true) (hS : SpansA H (.slice ps sp.length cs) sp) (hsp : ∀ x ∈ sp, (i64B x.1 && i64B x.2) = true) : ACall Try.prog T2 4 #[.agg #[(.slice pt1 ops.length cap1), (.slice pt2 az.length cap2), (.slice pt3 bs.length cap3), (.slice pt4 outs.length cap4), .int .i64 fl, .bool wr], (.slice ps sp.length cs)] H fun r H' => r = .bool true := by
  obtain ⟨c, hc⟩ : ∃ c, c = mkC ops az bs (mkN ops az bs) := ⟨_, rfl⟩
  obtain ⟨o, ho⟩ : ∃ o, o = mkO outs (mkN ops az bs) (mkM outs (mkN ops az bs)) := ⟨_, rfl⟩
  obtain ⟨f, hf9⟩ : ∃ f, f = mkF fl (mkN ops az bs) := ⟨_, rfl⟩
  have ok9 : PgOk c o f := by rw [hc, ho, hf9]; exact made_ok ops az bs outs fl
  obtain ⟨vs, hv, hvs⟩ : ∃ vs : Nat, mkW wr (mkN ops az bs) = (vs : Int) ∧ (vs = c.length ∨ vs = c.length + 1) := by
    have hcl : c.length = mkN ops az bs := by rw [hc, mkC_len]
    cases wr
    · exact ⟨mkN ops az bs, rfl, .inl hcl.symm⟩
    · exact ⟨mkN ops az bs + 1, by unfold mkW; simp, .inr (by rw [hcl])⟩
  refine acall_cf 94 (initTm 0 #[.agg #[(.slice pt1 ops.length cap1), (.slice pt2 az.length cap2), (.slice pt3 bs.length cap3), (.slice pt4 outs.length cap4), .int .i64 fl, .bool wr], (.slice ps sp.length cs)]) rfl f4_fn f4_body rfl rfl ?_
  refine cf_go 2 ?_
  obtain ⟨H1_, hH1_⟩ : ∃ x : Heap, x = H.push ⟨[(.slice pt1 ops.length cap1), (.slice pt2 az.length cap2), (.slice pt3 bs.length cap3), (.slice pt4 outs.length cap4), .int .i64 fl, .bool wr], 24, false⟩ := ⟨_, rfl⟩
  have nH1_ : H1_.n = H.n + 1 := by rw [hH1_]; rfl
  refine cf_val 2 (.pointer (some ⟨H.n, 0, none⟩)) H1_ (by kernel_rfl) ((by kernel_rfl : _ = some (Res.val (.pointer (some ⟨H.n, 0, none⟩)), H.push ⟨[(.slice pt1 ops.length cap1), (.slice pt2 az.length cap2), (.slice pt3 bs.length cap3), (.slice pt4 outs.length cap4), .int .i64 fl, .bool wr], 24, false⟩)).trans (by rw [← hH1_])) ?_
  refine cf_go 20 ?_
  have gH1_H_n : H1_.get (H.n) = some ⟨[(.slice pt1 ops.length cap1), (.slice pt2 az.length cap2), (.slice pt3 bs.length cap3), (.slice pt4 outs.length cap4), .int .i64 fl, .bool wr], 24, false⟩ := by rw [hH1_]; exact (Heap.get_push _ _ _).trans (if_pos rfl)
  refine cf_loop 94 (cl (cl (cr (cl (cr (cr (cr f4b))))))) [.blk 0, .next (cr (cr (cr (cr f4b))))] (by kernel_rfl) (by kernel_rfl) (by kernel_rfl) (fun m9 s9 => ∃ (i : Nat) (va vb : Value) (H1 : Heap), m9 = min sp.length 30 - i ∧ i ≤ min sp.length 30 ∧ H1.get H.n = some ⟨[(.slice pt1 ops.length cap1), (.slice pt2 az.length cap2), (.slice pt3 bs.length cap3), (.slice pt4 outs.length cap4), .int .i64 fl, .bool wr], 24, false⟩ ∧ Gr H1 H.n 40 3 va i (ivs (spL sp i)) ∧ Gr H1 H.n 41 3 vb i (ivs (spL sp i)) ∧ H.n < H1.n ∧ Up H.n H H1 ∧ Kn s9.tm [(1, (.slice ps sp.length cs)), (2, .pointer (some ⟨H.n, 0, none⟩)), (4, .bool false), (5, va), (6, vb), (7, .int .i64 ((i : Nat) : Int))] ∧ s9.H = H1) (min sp.length 30) ⟨0, .slice none 0 0, .slice none 0 0, H1_, by omega, by omega, gH1_H_n, Gr.nil, Gr.nil, by omega, (show Up H.n H H1_ from ⟨by omega, fun b hb => by rw [hH1_, Heap.get_push, if_neg (by omega)]⟩), ⟨(by kernel_rfl), (by kernel_rfl), (by kernel_rfl), (by kernel_rfl), (by kernel_rfl), (by kernel_rfl), True.intro⟩, (by kernel_rfl)⟩ ?_
  rintro m9 s9 ⟨i, va, vb, H1, hm, hi, gD, hgv, hgw, bD, uH1, hkn, hH⟩ Rr1 hRr1
  refine cf_kn [(1, (.slice ps sp.length cs)), (2, .pointer (some ⟨H.n, 0, none⟩)), (4, .bool false), (5, va), (6, vb), (7, .int .i64 ((i : Nat) : Int))] hkn hH fun tm => ?_
  have nH1 := uH1.n
  obtain ⟨pv, cv, rfl⟩ := Gr.sl hgv
  obtain ⟨pw, cw, rfl⟩ := Gr.sl hgw
  by_cases hlt : i < min sp.length 30
  · skip
    obtain ⟨⟨p, q⟩, hx⟩ : ∃ x, sp[i]? = some x := ⟨_, List.getElem?_eq_getElem (by omega)⟩
    have hpq := hsp _ (List.mem_of_getElem? hx)
    simp only [i64B, Bool.and_eq_true, decide_eq_true_eq] at hpq
    rcases hS.at_ with ⟨_, _, h0⟩ | ⟨A, off9, cq, cells, e9, ro9, heS, gA, hA, hcS⟩
    · rw [h0] at hx; simp at hx
    obtain ⟨rfl, rfl⟩ : ps = some ⟨A, off9, none⟩ ∧ cs = cq := by injection heS with e1 _ e3; exact ⟨e1, e3⟩
    have hcx := hcS i (by omega)
    rw [show sp[i] = (p, q) from Option.some.inj ((List.getElem?_eq_getElem (by omega)).symm.trans hx)] at hcx
    refine cf_go 7 ?_
    refine cf_see 15 (.bool true) (see_bool (by kernel_rfl) ((decide_eq_true (by omega)) : ((decide (((i : Nat) : Int) < ((sp.length : Nat) : Int)))) = true)) ?_
    refine cf_go 3 ?_
    refine cf_see 18 (.bool true) (see_bool (by kernel_rfl) ((decide_eq_true (by omega)) : ((decide (((i : Nat) : Int) < 30))) = true)) ?_
    refine cf_go 12 ?_
    refine cf_val 24 (.pointer (some ⟨A, off9 + i * 2, none⟩)) H1 (by kernel_rfl) ((by kernel_rfl : _ = val (bif (i : Nat).blt sp.length then some (.pointer (some ⟨A, off9 + i * 2, none⟩)) else none) H1).trans (by rw [show (i : Nat).blt sp.length = true from (by rw [blt_dec]; simp only [decide_eq_true_eq]; omega)]; rfl)) ?_
    refine cf_go 1 ?_
    have gH1A : H1.get (A) = some ⟨cells, e9, ro9⟩ := by rw [uH1.get _ (by omega)]; exact gA
    refine cf_val 26 (.int .i64 p) H1 (by kernel_rfl) ((by kernel_rfl : _ = val (aload T2 3 (.pointer (some ⟨A, off9 + i * 2, none⟩)) H1) H1).trans (val_of ((aload_at gH1A).trans (aloadC_cellB (n := 1) (by kernel_rfl) (by kernel_rfl) hcx.1)))) ?_
    refine cf_ask 27 (.int .i64 (0 + p % (40 - 0 + 1))) 12 #[.int .i64 p, .int .i64 0, .int .i64 40] (by kernel_rfl) (by kernel_rfl) (orc12 p 0 40 (by simp only [inB, Bool.and_eq_true, decide_eq_true_eq]; omega)) ?_
    refine cf_see 27 (.int .i64 (p % 41)) (see_int (x := (0 + p % (40 - 0 + 1))) (by kernel_rfl) (by rw [show (40 - 0 + 1 : Int) = 41 by omega]; omega)) ?_
    refine cf_go 8 ?_
    refine cf_val 31 (.pointer (some ⟨A, off9 + i * 2, none⟩)) H1 (by kernel_rfl) ((by kernel_rfl : _ = val (bif (i : Nat).blt sp.length then some (.pointer (some ⟨A, off9 + i * 2, none⟩)) else none) H1).trans (by rw [show (i : Nat).blt sp.length = true from (by rw [blt_dec]; simp only [decide_eq_true_eq]; omega)]; rfl)) ?_
    refine cf_go 1 ?_
    refine cf_val 33 (.int .i64 q) H1 (by kernel_rfl) ((by kernel_rfl : _ = val (aload T2 3 (.pointer (some ⟨A, off9 + i * 2 + 1, none⟩)) H1) H1).trans (val_of ((aload_at gH1A).trans (aloadC_cellB (n := 1) (by kernel_rfl) (by kernel_rfl) hcx.2)))) ?_
    refine cf_ask 34 (.int .i64 (0 + q % (9 - 0 + 1))) 12 #[.int .i64 q, .int .i64 0, .int .i64 9] (by kernel_rfl) (by kernel_rfl) (orc12 q 0 9 (by simp only [inB, Bool.and_eq_true, decide_eq_true_eq]; omega)) ?_
    refine cf_see 34 (.int .i64 (q % 10)) (see_int (x := (0 + q % (9 - 0 + 1))) (by kernel_rfl) (by rw [show (9 - 0 + 1 : Int) = 10 by omega]; omega)) ?_
    refine cf_go 1 ?_
    refine cf_see 35 (.int .i64 ((p % 41) + (q % 10))) (see_int (x := (IntKind.i64.wrap ((p % 41) + (q % 10)))) (by kernel_rfl) (w64 (by omega) (by omega) (by omega))) ?_
    refine cf_go 10 ?_
    obtain ⟨H2_, hH2_⟩ : ∃ x : Heap, x = H1.push ⟨[Value.int .i64 ((i : Nat) : Int), .int .i64 (p % 41), .int .i64 ((p % 41) + (q % 10))], 40, false⟩ := ⟨_, rfl⟩
    have nH2_ : H2_.n = H1.n + 1 := by rw [hH2_]; rfl
    refine cf_val 41 (.slice (some ⟨H1.n, 0, none⟩) 1 1) H2_ (by kernel_rfl) ((by kernel_rfl : _ = some (Res.val (.slice (some ⟨H1.n, 0, none⟩) 1 1), H1.push ⟨[Value.int .i64 ((i : Nat) : Int), .int .i64 (p % 41), .int .i64 ((p % 41) + (q % 10))], 40, false⟩)).trans (by rw [← hH2_])) ?_
    have gH2_H1_n : H2_.get (H1.n) = some ⟨[Value.int .i64 ((i : Nat) : Int), .int .i64 (p % 41), .int .i64 ((p % 41) + (q % 10))], 40, false⟩ := by rw [hH2_]; exact (Heap.get_push _ _ _).trans (if_pos rfl)
    have gk2_ := hgv.keep (H' := H2_) (lo' := H.n) (by omega) (fun b hb1 hb2 => by rw [hH2_, Heap.get_push, if_neg (by omega)])
    have gH2_H_n : H2_.get (H.n) = some ⟨[(.slice pt1 ops.length cap1), (.slice pt2 az.length cap2), (.slice pt3 bs.length cap3), (.slice pt4 outs.length cap4), .int .i64 fl, .bool wr], 24, false⟩ := by rw [hH2_, Heap.get_push, if_neg (by omega)]; exact gD
    obtain ⟨ovH3_, H3_, hapH3_, hgrH3_, uH3_, frH3_, nH3_, hvH3_⟩ := aappend_gr (T := T2) (st := 31) (xt := 31) (e := 40) (xd := .slice 40) (s0 := 2) (by_ := 23) (z := .agg #[.int .i64 0, .int .i64 0, .int .i64 0]) (by kernel_rfl) (by kernel_rfl) rfl (by kernel_rfl) (by kernel_rfl) (by kernel_rfl) (lo := H.n) gk2_ (x := .slice (some ⟨H1.n, 0, none⟩) 1 1) (asrc_blk (l := [Value.int .i64 ((i : Nat) : Int), .int .i64 (p % 41), .int .i64 ((p % 41) + (q % 10))]) gH2_H1_n rfl rfl) rfl rfl (by omega) (Gr.ne hgv (by omega)) (by omega) (by omega)
    subst hvH3_
    have gH3_H_nc : H3_.get (H.n) = some ⟨[(.slice pt1 ops.length cap1), (.slice pt2 az.length cap2), (.slice pt3 bs.length cap3), (.slice pt4 outs.length cap4), .int .i64 fl, .bool wr], 24, false⟩ := by rw [frH3_ _ (by omega) (Gr.neT gk2_ gH2_H_n (by decide))]; exact gH2_H_n
    have goH3_41 := Gr.other (hgw.keep (H' := H2_) (lo' := H.n) (by omega) (fun b hb1 hb2 => by rw [hH2_, Heap.get_push, if_neg (by omega)])) gk2_ (by decide) (H' := H3_) (by omega) frH3_
    refine cf_val 42 (.slice (some ⟨H2_.n, 0, none⟩) (i + 1) (unk + 3)) H3_ (by kernel_rfl) ((by kernel_rfl : _ = val2 (aappend T2 31 31 (.slice pv i cv) (.slice (some ⟨H1.n, 0, none⟩) 1 1) H2_)).trans (by rw [hapH3_]; rfl)) ?_
    refine cf_go 9 ?_
    obtain ⟨H4_, hH4_⟩ : ∃ x : Heap, x = H3_.push ⟨[Value.int .i64 ((i : Nat) : Int), .int .i64 (p % 41), .int .i64 ((p % 41) + (q % 10))], 41, false⟩ := ⟨_, rfl⟩
    have nH4_ : H4_.n = H3_.n + 1 := by rw [hH4_]; rfl
    refine cf_val 48 (.slice (some ⟨H3_.n, 0, none⟩) 1 1) H4_ (by kernel_rfl) ((by kernel_rfl : _ = some (Res.val (.slice (some ⟨H3_.n, 0, none⟩) 1 1), H3_.push ⟨[Value.int .i64 ((i : Nat) : Int), .int .i64 (p % 41), .int .i64 ((p % 41) + (q % 10))], 41, false⟩)).trans (by rw [← hH4_])) ?_
    have gH4_H3__n : H4_.get (H3_.n) = some ⟨[Value.int .i64 ((i : Nat) : Int), .int .i64 (p % 41), .int .i64 ((p % 41) + (q % 10))], 41, false⟩ := by rw [hH4_]; exact (Heap.get_push _ _ _).trans (if_pos rfl)
    have gk4_ := goH3_41.keep (H' := H4_) (lo' := H.n) (by omega) (fun b hb1 hb2 => by rw [hH4_, Heap.get_push, if_neg (by omega)])
    have gH4_H_n : H4_.get (H.n) = some ⟨[(.slice pt1 ops.length cap1), (.slice pt2 az.length cap2), (.slice pt3 bs.length cap3), (.slice pt4 outs.length cap4), .int .i64 fl, .bool wr], 24, false⟩ := by rw [hH4_, Heap.get_push, if_neg (by omega)]; exact gH3_H_nc
    obtain ⟨ovH5_, H5_, hapH5_, hgrH5_, uH5_, frH5_, nH5_, hvH5_⟩ := aappend_gr (T := T2) (st := 35) (xt := 35) (e := 41) (xd := .slice 41) (s0 := 2) (by_ := 23) (z := .agg #[.int .i64 0, .int .i64 0, .int .i64 0]) (by kernel_rfl) (by kernel_rfl) rfl (by kernel_rfl) (by kernel_rfl) (by kernel_rfl) (lo := H.n) gk4_ (x := .slice (some ⟨H3_.n, 0, none⟩) 1 1) (asrc_blk (l := [Value.int .i64 ((i : Nat) : Int), .int .i64 (p % 41), .int .i64 ((p % 41) + (q % 10))]) gH4_H3__n rfl rfl) rfl rfl (by omega) (Gr.ne goH3_41 (by omega)) (by omega) (by omega)
    subst hvH5_
    have gH5_H_nc : H5_.get (H.n) = some ⟨[(.slice pt1 ops.length cap1), (.slice pt2 az.length cap2), (.slice pt3 bs.length cap3), (.slice pt4 outs.length cap4), .int .i64 fl, .bool wr], 24, false⟩ := by rw [frH5_ _ (by omega) (Gr.neT gk4_ gH4_H_n (by decide))]; exact gH4_H_n
    have goH5_40 := Gr.other (hgrH3_.keep (H' := H4_) (lo' := H.n) (by omega) (fun b hb1 hb2 => by rw [hH4_, Heap.get_push, if_neg (by omega)])) gk4_ (by decide) (H' := H5_) (by omega) frH5_
    refine cf_val 49 (.slice (some ⟨H4_.n, 0, none⟩) (i + 1) (unk + 3)) H5_ (by kernel_rfl) ((by kernel_rfl : _ = val2 (aappend T2 35 35 (.slice pw i cw) (.slice (some ⟨H3_.n, 0, none⟩) 1 1) H4_)).trans (by rw [hapH5_]; rfl)) ?_
    refine cf_go 7 ?_
    refine cf_see 21 (.int .i64 ((i + 1 : Nat) : Int)) (see_int (x := (IntKind.i64.wrap (((i : Nat) : Int) + 1))) (by kernel_rfl) (w64 (by omega) (by omega) (by omega))) ?_
    refine cf_go 2 ?_
    have hsI : spI sp i = ((i : Int), p % 41, p % 41 + q % 10) := by unfold spI; rw [List.getD_eq_getElem?_getD, hx]; rfl
    have hga9 : Gr H5_ H.n 40 3 (.slice (some ⟨H2_.n, 0, none⟩) (i + 1) (unk + 3)) (i + 1) (ivs (spL sp (i + 1))) := by rw [spL_succ, ivs_snoc, hsI]; exact goH5_40
    have hgb9 : Gr H5_ H.n 41 3 (.slice (some ⟨H4_.n, 0, none⟩) (i + 1) (unk + 3)) (i + 1) (ivs (spL sp (i + 1))) := by rw [spL_succ, ivs_snoc, hsI]; exact hgrH5_
    refine cf_inv Rr1 (by kernel_rfl) (hRr1 _ ⟨min sp.length 30 - (i + 1), by omega, i + 1, _, _, H5_, rfl, by omega, gH5_H_nc, hga9, hgb9, by omega, (show Up H.n H H5_ from ⟨by omega, fun b hb => by rw [uH5_.get _ (by omega), hH4_, Heap.get_push, if_neg (by omega), uH3_.get _ (by omega), hH2_, Heap.get_push, if_neg (by omega), uH1.get _ (by omega)]⟩), ⟨(by kernel_rfl), (by kernel_rfl), (by kernel_rfl), (by kernel_rfl), (by kernel_rfl), (by kernel_rfl), True.intro⟩, (by kernel_rfl)⟩)
  · skip
    rcases (by omega : i = sp.length ∨ (i < sp.length ∧ i = 30)) with hq | hq
    · skip
      refine cf_go 7 ?_
      refine cf_see 15 (.bool false) (see_bool (by kernel_rfl) ((decide_eq_false (by omega)) : ((decide (((i : Nat) : Int) < ((sp.length : Nat) : Int)))) = false)) ?_
      refine cf_go 19 ?_
      obtain ⟨l, hl⟩ : ∃ l, l = spL sp i := ⟨_, rfl⟩
      have hll : i = l.length := by rw [hl, spL_len]
      have gv8 := hgv
      have gw8 := hgw
      rw [← hl] at gv8 gw8
      have hl1 : l.length ≤ 1000 := by omega
      clear hl
      subst hll
      have lo0 : ∀ {H : Heap} {lo : Nat} {e : TypeId} {v : Value}, Gr H lo e 3 v l.length (ivs l) → Gr H 0 e 3 v l.length (ivs l) := fun g => ⟨g.size, g.at_.elim .inl fun ⟨B, h1, h2, h3, h4⟩ => .inr ⟨B, h1, h2, h3, by omega⟩⟩
      refine cf_loop 94 (cl (cl (cr (cl (cr (cr (cr (cr f4b)))))))) [.blk 2, .next (cr (cr (cr (cr (cr f4b)))))] (by kernel_rfl) (by kernel_rfl) (by kernel_rfl) (fun m9 s9 => ∃ (u : Nat) (HA : Heap), m9 = l.length - u ∧ u ≤ l.length ∧ HA.get H.n = some ⟨[(.slice pt1 ops.length cap1), (.slice pt2 az.length cap2), (.slice pt3 bs.length cap3), (.slice pt4 outs.length cap4), .int .i64 fl, .bool wr], 24, false⟩ ∧ Gr HA 0 40 3 (.slice pv l.length cv) l.length (ivs l) ∧ Gr HA 0 41 3 (.slice pw l.length cw) l.length (ivs l) ∧ H.n < HA.n ∧ Up H.n H HA ∧ Kn s9.tm [(2, .pointer (some ⟨H.n, 0, none⟩)), (4, .bool false), (5, (.slice pv l.length cv)), (6, (.slice pw l.length cw)), (10, .int .i64 ((u : Nat) : Int))] ∧ s9.H = HA) (l.length) ⟨0, H1, by omega, by omega, gD, lo0 gv8, lo0 gw8, by omega, (show Up H.n H H1 from ⟨by omega, fun b hb => by rw [uH1.get _ (by omega)]⟩), ⟨(by kernel_rfl), (by kernel_rfl), (by kernel_rfl), (by kernel_rfl), (by kernel_rfl), True.intro⟩, (by kernel_rfl)⟩ ?_
      rintro m9 s9 ⟨u, HA, hm4, hu, gD4, gv9, gw9, bD4, uHA, hkn, hH⟩ Rr2 hRr2
      refine cf_kn [(2, .pointer (some ⟨H.n, 0, none⟩)), (4, .bool false), (5, (.slice pv l.length cv)), (6, (.slice pw l.length cw)), (10, .int .i64 ((u : Nat) : Int))] hkn hH fun tm => ?_
      have nHA := uHA.n
      by_cases hlt4 : u < l.length
      · skip
        obtain ⟨a, ha⟩ : ∃ i_, l[u]? = some i_ := ⟨_, List.getElem?_eq_getElem hlt4⟩
        rcases gv9.at_ with ⟨_, h0⟩ | ⟨B0, heB0, gB0, hB0, _⟩
        · omega
        obtain ⟨rfl, rfl⟩ : pv = some ⟨B0, 0, none⟩ ∧ cv = unk + 3 := by injection heB0 with e1 _ e3; exact ⟨e1, e3⟩
        rcases gw9.at_ with ⟨_, h0⟩ | ⟨C0, heC0, gC0, hC0, _⟩
        · omega
        obtain ⟨rfl, rfl⟩ : pw = some ⟨C0, 0, none⟩ ∧ cw = unk + 3 := by injection heC0 with e1 _ e3; exact ⟨e1, e3⟩
        refine cf_go 7 ?_
        refine cf_see 53 (.bool true) (see_bool (by kernel_rfl) ((decide_eq_true (by omega)) : ((decide (((u : Nat) : Int) < ((l.length : Nat) : Int)))) = true)) ?_
        refine cf_go 13 ?_
        refine cf_loop 94 (cl (cl (cr (cl (cl (cr (cl (cl (cr (cl (cr (cr (cr (cr f4b)))))))))))))) [.blk 4, .blk 3, .next (cr (cr (cl (cl (cr (cl (cr (cr (cr (cr f4b)))))))))), .inv Rr2, .blk 2, .next (cr (cr (cr (cr (cr f4b)))))] (by kernel_rfl) (by kernel_rfl) (by kernel_rfl) (fun m9 s9 => ∃ (k : Nat) (HB : Heap), m9 = l.length - k ∧ k ≤ l.length ∧ HB.get H.n = some ⟨[(.slice pt1 ops.length cap1), (.slice pt2 az.length cap2), (.slice pt3 bs.length cap3), (.slice pt4 outs.length cap4), .int .i64 fl, .bool wr], 24, false⟩ ∧ HB.get B0 = some ⟨ivs l, 40, false⟩ ∧ HB.get C0 = some ⟨ivs l, 41, false⟩ ∧ B0 < HB.n ∧ C0 < HB.n ∧ H.n < HB.n ∧ Up H.n H HB ∧ Kn s9.tm [(2, .pointer (some ⟨H.n, 0, none⟩)), (4, .bool false), (5, .slice (some ⟨B0, 0, none⟩) l.length (unk + 3)), (6, .slice (some ⟨C0, 0, none⟩) l.length (unk + 3)), (10, .int .i64 ((u : Nat) : Int)), (11, .int .i64 ((k : Nat) : Int))] ∧ s9.H = HB) (l.length) ⟨0, HA, by omega, by omega, gD4, gB0, gC0, by omega, by omega, by omega, (show Up H.n H HA from ⟨by omega, fun b hb => by rw [uHA.get _ (by omega)]⟩), ⟨(by kernel_rfl), (by kernel_rfl), (by kernel_rfl), (by kernel_rfl), (by kernel_rfl), (by kernel_rfl), True.intro⟩, (by kernel_rfl)⟩ ?_
        rintro m9 s9 ⟨k, HB, hm5, hk, gD5, gBB, gCB, bB, bC, bD5, uHB, hkn, hH⟩ Rr3 hRr3
        refine cf_kn [(2, .pointer (some ⟨H.n, 0, none⟩)), (4, .bool false), (5, .slice (some ⟨B0, 0, none⟩) l.length (unk + 3)), (6, .slice (some ⟨C0, 0, none⟩) l.length (unk + 3)), (10, .int .i64 ((u : Nat) : Int)), (11, .int .i64 ((k : Nat) : Int))] hkn hH fun tm => ?_
        have nHB := uHB.n
        have gvX : Gr HB 0 40 3 (.slice (some ⟨B0, 0, none⟩) l.length (unk + 3)) l.length (ivs l) := Gr.iv gBB rfl bB (by omega)
        have gwX : Gr HB 0 41 3 (.slice (some ⟨C0, 0, none⟩) l.length (unk + 3)) l.length (ivs l) := Gr.iv gCB rfl bC (by omega)
        by_cases hlt5 : k < l.length
        · skip
          obtain ⟨b, hb⟩ : ∃ i_, l[k]? = some i_ := ⟨_, List.getElem?_eq_getElem hlt5⟩
          rcases Bool.eq_false_or_eq_true (meetB a.2.1 a.2.2 b.2.1 b.2.2) with hmt | hmt
          · skip
            refine cf_go 7 ?_
            refine cf_see 59 (.bool true) (see_bool (by kernel_rfl) ((decide_eq_true (by omega)) : ((decide (((k : Nat) : Int) < ((l.length : Nat) : Int)))) = true)) ?_
            refine cf_go 8 ?_
            refine cf_drawV (HB.n) (by kernel_rfl) ?_
            refine aopsV_go 2 (by kernel_rfl) (by kernel_rfl) ?_
            refine aopsV_val 64 (.pointer (some ⟨B0, 0 + u * 3, none⟩)) HB HB (by kernel_rfl) ((by kernel_rfl : _ = val (bif (u : Nat).blt l.length then some (.pointer (some ⟨B0, 0 + u * 3, none⟩)) else none) HB).trans (by rw [show (u : Nat).blt l.length = true from (by rw [blt_dec]; simp only [decide_eq_true_eq]; omega)]; rfl)) (by kernel_rfl) (calm_no (by kernel_rfl)) (by kernel_rfl) ?_
            refine aopsV_val 65 (.agg #[.int .i64 a.1, .int .i64 a.2.1, .int .i64 a.2.2]) HB HB (by kernel_rfl) ((by kernel_rfl : _ = val (aload T2 40 (.pointer (some ⟨B0, 0 + u * 3, none⟩)) HB) HB).trans (val_of ((aload_at gBB).trans (aloadC_rowB (n := 3) (l := ivC a) (by kernel_rfl) (by kernel_rfl) (by kernel_rfl) (ivs_at l u _ ha))))) (by kernel_rfl) (calm_no (by kernel_rfl)) (by kernel_rfl) ?_
            refine aopsV_go 2 (by kernel_rfl) (by kernel_rfl) ?_
            refine aopsV_val 68 (.pointer (some ⟨B0, 0 + k * 3, none⟩)) HB HB (by kernel_rfl) ((by kernel_rfl : _ = val (bif (k : Nat).blt l.length then some (.pointer (some ⟨B0, 0 + k * 3, none⟩)) else none) HB).trans (by rw [show (k : Nat).blt l.length = true from (by rw [blt_dec]; simp only [decide_eq_true_eq]; omega)]; rfl)) (by kernel_rfl) (calm_no (by kernel_rfl)) (by kernel_rfl) ?_
            refine aopsV_val 69 (.agg #[.int .i64 b.1, .int .i64 b.2.1, .int .i64 b.2.2]) HB HB (by kernel_rfl) ((by kernel_rfl : _ = val (aload T2 40 (.pointer (some ⟨B0, 0 + k * 3, none⟩)) HB) HB).trans (val_of ((aload_at gBB).trans (aloadC_rowB (n := 3) (l := ivC b) (by kernel_rfl) (by kernel_rfl) (by kernel_rfl) (ivs_at l k _ hb))))) (by kernel_rfl) (calm_no (by kernel_rfl)) (by kernel_rfl) ?_
            refine aopsV_call 70 13 #[.agg #[.int .i64 a.1, .int .i64 a.2.1, .int .i64 a.2.2], .agg #[.int .i64 b.1, .int .i64 b.2.1, .int .i64 b.2.2]] HB (by kernel_rfl) (by kernel_rfl) (by kernel_rfl) (meet_run a.1 a.2.1 a.2.2 b.1 b.2.1 b.2.2) (fun _ _ _ h => h.2) ?_
            rintro _ H6_ ⟨rfl, uH6_⟩
            have nH6_ := uH6_.n
            refine aopsV_see 70 (.bool true) (see_bool (by kernel_rfl) hmt) ?_
            refine aopsV_go 2 (by kernel_rfl) (by kernel_rfl) ?_
            refine aopsV_val 73 (.pointer (some ⟨C0, 0 + u * 3, none⟩)) H6_ H6_ (by kernel_rfl) ((by kernel_rfl : _ = val (bif (u : Nat).blt l.length then some (.pointer (some ⟨C0, 0 + u * 3, none⟩)) else none) H6_).trans (by rw [show (u : Nat).blt l.length = true from (by rw [blt_dec]; simp only [decide_eq_true_eq]; omega)]; rfl)) (by kernel_rfl) (fun _ => Up.refl _) (by kernel_rfl) ?_
            have gH6_C0 : H6_.get (C0) = some ⟨(ivs l), 41, false⟩ := by rw [uH6_.get _ (by omega)]; exact gCB
            refine aopsV_get 74 (.agg #[.int .i64 a.1, .int .i64 a.2.1, .int .i64 a.2.2]) (.pointer (some ⟨C0, 0 + u * 3, none⟩)) (.tmp 73) H6_ (by kernel_rfl) (by kernel_rfl) (by kernel_rfl) (by kernel_rfl) ((by kernel_rfl : _ = aload T2 41 (.pointer (some ⟨C0, 0 + u * 3, none⟩)) H6_).trans ((aload_at gH6_C0).trans (aloadC_rowB (n := 3) (l := ivC a) (by kernel_rfl) (by kernel_rfl) (by kernel_rfl) (ivs_at l u _ ha)))) (veqs_c (veq_int _ _) (veqs_c (veq_int _ _) (veqs_c (veq_int _ _) rfl))) (lowB_ptr (by omega)) ((by kernel_rfl : _ = val (aload T2 41 (.pointer (some ⟨C0, 0 + u * 3, none⟩)) H6_) H6_).trans (val_to ((aload_at gH6_C0).trans (aloadC_rowB (n := 3) (l := ivC a) (by kernel_rfl) (by kernel_rfl) (by kernel_rfl) (ivs_at l u _ ha))) (by kernel_rfl))) ?_
            refine aopsV_go 2 (by kernel_rfl) (by kernel_rfl) ?_
            refine aopsV_val 77 (.pointer (some ⟨C0, 0 + k * 3, none⟩)) H6_ H6_ (by kernel_rfl) ((by kernel_rfl : _ = val (bif (k : Nat).blt l.length then some (.pointer (some ⟨C0, 0 + k * 3, none⟩)) else none) H6_).trans (by rw [show (k : Nat).blt l.length = true from (by rw [blt_dec]; simp only [decide_eq_true_eq]; omega)]; rfl)) (by kernel_rfl) (fun _ => Up.refl _) (by kernel_rfl) ?_
            refine aopsV_get 78 (.agg #[.int .i64 b.1, .int .i64 b.2.1, .int .i64 b.2.2]) (.pointer (some ⟨C0, 0 + k * 3, none⟩)) (.tmp 77) H6_ (by kernel_rfl) (by kernel_rfl) (by kernel_rfl) (by kernel_rfl) ((by kernel_rfl : _ = aload T2 41 (.pointer (some ⟨C0, 0 + k * 3, none⟩)) H6_).trans ((aload_at gH6_C0).trans (aloadC_rowB (n := 3) (l := ivC b) (by kernel_rfl) (by kernel_rfl) (by kernel_rfl) (ivs_at l k _ hb)))) (veqs_c (veq_int _ _) (veqs_c (veq_int _ _) (veqs_c (veq_int _ _) rfl))) (lowB_ptr (by omega)) ((by kernel_rfl : _ = val (aload T2 41 (.pointer (some ⟨C0, 0 + k * 3, none⟩)) H6_) H6_).trans (val_to ((aload_at gH6_C0).trans (aloadC_rowB (n := 3) (l := ivC b) (by kernel_rfl) (by kernel_rfl) (by kernel_rfl) (ivs_at l k _ hb))) (by kernel_rfl))) ?_
            refine aopsV_call 79 14 #[.agg #[.int .i64 a.1, .int .i64 a.2.1, .int .i64 a.2.2], .agg #[.int .i64 b.1, .int .i64 b.2.1, .int .i64 b.2.2]] H6_ (by kernel_rfl) (by kernel_rfl) (by kernel_rfl) (rmeet_run a.1 a.2.1 a.2.2 b.1 b.2.1 b.2.2) (calm_no (by kernel_rfl)) ?_
            rintro _ H7_ ⟨rfl, uH7_⟩
            have nH7_ := uH7_.n
            refine aopsV_see 79 (.bool true) (see_bool (by kernel_rfl) hmt) ?_
            refine aopsV_go 1 (by kernel_rfl) (by kernel_rfl) ?_
            refine aopsV_end (by kernel_rfl) ?_
            refine cf_go 8 ?_
            refine cf_see 61 (.int .i64 ((k + 1 : Nat) : Int)) (see_int (x := (IntKind.i64.wrap (((k : Nat) : Int) + 1))) (by kernel_rfl) (w64 (by omega) (by omega) (by omega))) ?_
            refine cf_go 2 ?_
            have gH7_H_n : H7_.get (H.n) = some ⟨[(.slice pt1 ops.length cap1), (.slice pt2 az.length cap2), (.slice pt3 bs.length cap3), (.slice pt4 outs.length cap4), .int .i64 fl, .bool wr], 24, false⟩ := by rw [uH7_.get _ (by omega)]; rw [uH6_.get _ (by omega)]; exact gD5
            have gH7_B0 : H7_.get (B0) = some ⟨(ivs l), 40, false⟩ := by rw [uH7_.get _ (by omega)]; rw [uH6_.get _ (by omega)]; exact gBB
            have gH7_C0 : H7_.get (C0) = some ⟨(ivs l), 41, false⟩ := by rw [uH7_.get _ (by omega)]; exact gH6_C0
            refine cf_inv Rr3 (by kernel_rfl) (hRr3 _ ⟨l.length - (k + 1), by omega, k + 1, H7_, rfl, by omega, gH7_H_n, gH7_B0, gH7_C0, by omega, by omega, by omega, (show Up H.n H H7_ from ⟨by omega, fun b hb => by rw [uH7_.get _ (by omega), uH6_.get _ (by omega), uHB.get _ (by omega)]⟩), ⟨(by kernel_rfl), (by kernel_rfl), (by kernel_rfl), (by kernel_rfl), (by kernel_rfl), (by kernel_rfl), True.intro⟩, (by kernel_rfl)⟩)
          · skip
            refine cf_go 7 ?_
            refine cf_see 59 (.bool true) (see_bool (by kernel_rfl) ((decide_eq_true (by omega)) : ((decide (((k : Nat) : Int) < ((l.length : Nat) : Int)))) = true)) ?_
            refine cf_go 8 ?_
            refine cf_drawV (HB.n) (by kernel_rfl) ?_
            refine aopsV_go 2 (by kernel_rfl) (by kernel_rfl) ?_
            refine aopsV_val 64 (.pointer (some ⟨B0, 0 + u * 3, none⟩)) HB HB (by kernel_rfl) ((by kernel_rfl : _ = val (bif (u : Nat).blt l.length then some (.pointer (some ⟨B0, 0 + u * 3, none⟩)) else none) HB).trans (by rw [show (u : Nat).blt l.length = true from (by rw [blt_dec]; simp only [decide_eq_true_eq]; omega)]; rfl)) (by kernel_rfl) (calm_no (by kernel_rfl)) (by kernel_rfl) ?_
            refine aopsV_val 65 (.agg #[.int .i64 a.1, .int .i64 a.2.1, .int .i64 a.2.2]) HB HB (by kernel_rfl) ((by kernel_rfl : _ = val (aload T2 40 (.pointer (some ⟨B0, 0 + u * 3, none⟩)) HB) HB).trans (val_of ((aload_at gBB).trans (aloadC_rowB (n := 3) (l := ivC a) (by kernel_rfl) (by kernel_rfl) (by kernel_rfl) (ivs_at l u _ ha))))) (by kernel_rfl) (calm_no (by kernel_rfl)) (by kernel_rfl) ?_
            refine aopsV_go 2 (by kernel_rfl) (by kernel_rfl) ?_
            refine aopsV_val 68 (.pointer (some ⟨B0, 0 + k * 3, none⟩)) HB HB (by kernel_rfl) ((by kernel_rfl : _ = val (bif (k : Nat).blt l.length then some (.pointer (some ⟨B0, 0 + k * 3, none⟩)) else none) HB).trans (by rw [show (k : Nat).blt l.length = true from (by rw [blt_dec]; simp only [decide_eq_true_eq]; omega)]; rfl)) (by kernel_rfl) (calm_no (by kernel_rfl)) (by kernel_rfl) ?_
            refine aopsV_val 69 (.agg #[.int .i64 b.1, .int .i64 b.2.1, .int .i64 b.2.2]) HB HB (by kernel_rfl) ((by kernel_rfl : _ = val (aload T2 40 (.pointer (some ⟨B0, 0 + k * 3, none⟩)) HB) HB).trans (val_of ((aload_at gBB).trans (aloadC_rowB (n := 3) (l := ivC b) (by kernel_rfl) (by kernel_rfl) (by kernel_rfl) (ivs_at l k _ hb))))) (by kernel_rfl) (calm_no (by kernel_rfl)) (by kernel_rfl) ?_
            refine aopsV_call 70 13 #[.agg #[.int .i64 a.1, .int .i64 a.2.1, .int .i64 a.2.2], .agg #[.int .i64 b.1, .int .i64 b.2.1, .int .i64 b.2.2]] HB (by kernel_rfl) (by kernel_rfl) (by kernel_rfl) (meet_run a.1 a.2.1 a.2.2 b.1 b.2.1 b.2.2) (fun _ _ _ h => h.2) ?_
            rintro _ H8_ ⟨rfl, uH8_⟩
            have nH8_ := uH8_.n
            refine aopsV_see 70 (.bool false) (see_bool (by kernel_rfl) hmt) ?_
            refine aopsV_go 2 (by kernel_rfl) (by kernel_rfl) ?_
            refine aopsV_val 73 (.pointer (some ⟨C0, 0 + u * 3, none⟩)) H8_ H8_ (by kernel_rfl) ((by kernel_rfl : _ = val (bif (u : Nat).blt l.length then some (.pointer (some ⟨C0, 0 + u * 3, none⟩)) else none) H8_).trans (by rw [show (u : Nat).blt l.length = true from (by rw [blt_dec]; simp only [decide_eq_true_eq]; omega)]; rfl)) (by kernel_rfl) (fun _ => Up.refl _) (by kernel_rfl) ?_
            have gH8_C0 : H8_.get (C0) = some ⟨(ivs l), 41, false⟩ := by rw [uH8_.get _ (by omega)]; exact gCB
            refine aopsV_get 74 (.agg #[.int .i64 a.1, .int .i64 a.2.1, .int .i64 a.2.2]) (.pointer (some ⟨C0, 0 + u * 3, none⟩)) (.tmp 73) H8_ (by kernel_rfl) (by kernel_rfl) (by kernel_rfl) (by kernel_rfl) ((by kernel_rfl : _ = aload T2 41 (.pointer (some ⟨C0, 0 + u * 3, none⟩)) H8_).trans ((aload_at gH8_C0).trans (aloadC_rowB (n := 3) (l := ivC a) (by kernel_rfl) (by kernel_rfl) (by kernel_rfl) (ivs_at l u _ ha)))) (veqs_c (veq_int _ _) (veqs_c (veq_int _ _) (veqs_c (veq_int _ _) rfl))) (lowB_ptr (by omega)) ((by kernel_rfl : _ = val (aload T2 41 (.pointer (some ⟨C0, 0 + u * 3, none⟩)) H8_) H8_).trans (val_to ((aload_at gH8_C0).trans (aloadC_rowB (n := 3) (l := ivC a) (by kernel_rfl) (by kernel_rfl) (by kernel_rfl) (ivs_at l u _ ha))) (by kernel_rfl))) ?_
            refine aopsV_go 2 (by kernel_rfl) (by kernel_rfl) ?_
            refine aopsV_val 77 (.pointer (some ⟨C0, 0 + k * 3, none⟩)) H8_ H8_ (by kernel_rfl) ((by kernel_rfl : _ = val (bif (k : Nat).blt l.length then some (.pointer (some ⟨C0, 0 + k * 3, none⟩)) else none) H8_).trans (by rw [show (k : Nat).blt l.length = true from (by rw [blt_dec]; simp only [decide_eq_true_eq]; omega)]; rfl)) (by kernel_rfl) (fun _ => Up.refl _) (by kernel_rfl) ?_
            refine aopsV_get 78 (.agg #[.int .i64 b.1, .int .i64 b.2.1, .int .i64 b.2.2]) (.pointer (some ⟨C0, 0 + k * 3, none⟩)) (.tmp 77) H8_ (by kernel_rfl) (by kernel_rfl) (by kernel_rfl) (by kernel_rfl) ((by kernel_rfl : _ = aload T2 41 (.pointer (some ⟨C0, 0 + k * 3, none⟩)) H8_).trans ((aload_at gH8_C0).trans (aloadC_rowB (n := 3) (l := ivC b) (by kernel_rfl) (by kernel_rfl) (by kernel_rfl) (ivs_at l k _ hb)))) (veqs_c (veq_int _ _) (veqs_c (veq_int _ _) (veqs_c (veq_int _ _) rfl))) (lowB_ptr (by omega)) ((by kernel_rfl : _ = val (aload T2 41 (.pointer (some ⟨C0, 0 + k * 3, none⟩)) H8_) H8_).trans (val_to ((aload_at gH8_C0).trans (aloadC_rowB (n := 3) (l := ivC b) (by kernel_rfl) (by kernel_rfl) (by kernel_rfl) (ivs_at l k _ hb))) (by kernel_rfl))) ?_
            refine aopsV_call 79 14 #[.agg #[.int .i64 a.1, .int .i64 a.2.1, .int .i64 a.2.2], .agg #[.int .i64 b.1, .int .i64 b.2.1, .int .i64 b.2.2]] H8_ (by kernel_rfl) (by kernel_rfl) (by kernel_rfl) (rmeet_run a.1 a.2.1 a.2.2 b.1 b.2.1 b.2.2) (calm_no (by kernel_rfl)) ?_
            rintro _ H9_ ⟨rfl, uH9_⟩
            have nH9_ := uH9_.n
            refine aopsV_see 79 (.bool false) (see_bool (by kernel_rfl) hmt) ?_
            refine aopsV_go 1 (by kernel_rfl) (by kernel_rfl) ?_
            refine aopsV_end (by kernel_rfl) ?_
            refine cf_go 8 ?_
            refine cf_see 61 (.int .i64 ((k + 1 : Nat) : Int)) (see_int (x := (IntKind.i64.wrap (((k : Nat) : Int) + 1))) (by kernel_rfl) (w64 (by omega) (by omega) (by omega))) ?_
            refine cf_go 2 ?_
            have gH9_H_n : H9_.get (H.n) = some ⟨[(.slice pt1 ops.length cap1), (.slice pt2 az.length cap2), (.slice pt3 bs.length cap3), (.slice pt4 outs.length cap4), .int .i64 fl, .bool wr], 24, false⟩ := by rw [uH9_.get _ (by omega)]; rw [uH8_.get _ (by omega)]; exact gD5
            have gH9_B0 : H9_.get (B0) = some ⟨(ivs l), 40, false⟩ := by rw [uH9_.get _ (by omega)]; rw [uH8_.get _ (by omega)]; exact gBB
            have gH9_C0 : H9_.get (C0) = some ⟨(ivs l), 41, false⟩ := by rw [uH9_.get _ (by omega)]; exact gH8_C0
            refine cf_inv Rr3 (by kernel_rfl) (hRr3 _ ⟨l.length - (k + 1), by omega, k + 1, H9_, rfl, by omega, gH9_H_n, gH9_B0, gH9_C0, by omega, by omega, by omega, (show Up H.n H H9_ from ⟨by omega, fun b hb => by rw [uH9_.get _ (by omega), uH8_.get _ (by omega), uHB.get _ (by omega)]⟩), ⟨(by kernel_rfl), (by kernel_rfl), (by kernel_rfl), (by kernel_rfl), (by kernel_rfl), (by kernel_rfl), True.intro⟩, (by kernel_rfl)⟩)
        · skip
          have hke : k = l.length := by omega
          refine cf_go 7 ?_
          refine cf_see 59 (.bool false) (see_bool (by kernel_rfl) ((decide_eq_false (by omega)) : ((decide (((k : Nat) : Int) < ((l.length : Nat) : Int)))) = false)) ?_
          refine cf_go 12 ?_
          refine cf_see 55 (.int .i64 ((u + 1 : Nat) : Int)) (see_int (x := (IntKind.i64.wrap (((u : Nat) : Int) + 1))) (by kernel_rfl) (w64 (by omega) (by omega) (by omega))) ?_
          refine cf_go 2 ?_
          refine cf_inv Rr2 (by kernel_rfl) (hRr2 _ ⟨l.length - (u + 1), by omega, u + 1, HB, rfl, by omega, gD5, gvX, gwX, by omega, (show Up H.n H HB from ⟨by omega, fun b hb => by rw [uHB.get _ (by omega)]⟩), ⟨(by kernel_rfl), (by kernel_rfl), (by kernel_rfl), (by kernel_rfl), (by kernel_rfl), True.intro⟩, (by kernel_rfl)⟩)
      · skip
        have hie : u = l.length := by omega
        refine cf_go 7 ?_
        refine cf_see 53 (.bool false) (see_bool (by kernel_rfl) ((decide_eq_false (by omega)) : ((decide (((u : Nat) : Int) < ((l.length : Nat) : Int)))) = false)) ?_
        refine cf_go 10 ?_
        refine cf_val 81 (.agg #[(.slice pt1 ops.length cap1), (.slice pt2 az.length cap2), (.slice pt3 bs.length cap3), (.slice pt4 outs.length cap4), .int .i64 fl, .bool wr]) HA (by kernel_rfl) ((by kernel_rfl : _ = val (aload T2 24 (.pointer (some ⟨H.n, 0, none⟩)) HA) HA).trans (val_of ((aload_at gD4).trans (by kernel_rfl)))) ?_
        have hU9 : Up H.n H HA := (show Up H.n H HA from ⟨by omega, fun b hb => by rw [uHA.get _ (by omega)]⟩)
        refine cf_call 82 9 #[.agg #[(.slice pt1 ops.length cap1), (.slice pt2 az.length cap2), (.slice pt3 bs.length cap3), (.slice pt4 outs.length cap4), .int .i64 fl, .bool wr]] HA (by kernel_rfl) (by kernel_rfl) (by kernel_rfl) (made_run hc ho hf9 hv (NumsA.up hN1 hU9) hr1 (NumsA.up hN2 hU9) hr2 (NumsA.up hN3 hU9) hr3 (NumsA.up hN4 hU9) hr4 hf) ?_
        rintro _ H10_ ⟨pc, cc, po, co, rfl, gc, go, uH10_⟩
        have nH10_ := uH10_.n
        refine cf_call 83 8 #[.agg #[(.slice pc c.length cc), .int .i64 0, .int .i64 0, .int .i64 0, .int .i64 0, (.slice po o.length co), .slice none 0 0, .int .i64 f, .int .u32 0, .int .i64 (-1), .int .i64 0, .int .u32 0, .int .i64 1, .int .i64 ((vs : Nat) : Int)]] H10_ (by kernel_rfl) (by kernel_rfl) (by kernel_rfl) (same_any hvs ok9 gc go) ?_
        rintro _ H11_ ⟨rfl, uH11_⟩
        have nH11_ := uH11_.n
        refine cf_go 2 ?_
        refine cf_call 86 15 #[(.slice pv l.length cv)] H11_ (by kernel_rfl) (by kernel_rfl) (by kernel_rfl) (press_run hl1 (gv9.keep (lo' := 0) (by omega) (fun b hb1 hb2 => by rw [uH11_.get _ (by omega), uH10_.get _ (by omega)]))) ?_
        rintro _ H12_ ⟨rfl, uH12_⟩
        have nH12_ := uH12_.n
        refine cf_go 1 ?_
        refine cf_call 88 16 #[(.slice pw l.length cw)] H12_ (by kernel_rfl) (by kernel_rfl) (by kernel_rfl) (rpress_runM hl1 (gw9.keep (lo' := 0) (by omega) (fun b hb1 hb2 => by rw [uH12_.get _ (by omega), uH11_.get _ (by omega), uH10_.get _ (by omega)]))) ?_
        rintro _ H13_ ⟨rfl, uH13_⟩
        have nH13_ := uH13_.n
        refine cf_go 1 ?_
        refine cf_see 89 (.bool true) (see_bool (by kernel_rfl) ((beq_self_eq_true _) : ((((most l l) : Int) == (most l l))) = true)) ?_
        refine cf_go 2 ?_
        refine cf_ask 92 (.bool true) 11 #[] (by kernel_rfl) (by kernel_rfl) (by kernel_rfl) ?_
        refine cf_go 5 ?_
        refine cf_end (.bool true) H13_ (by kernel_rfl) (by kernel_rfl) (by kernel_rfl) ?_
        exact (by kernel_rfl)
    · skip
      refine cf_go 7 ?_
      refine cf_see 15 (.bool true) (see_bool (by kernel_rfl) ((decide_eq_true (by omega)) : ((decide (((i : Nat) : Int) < ((sp.length : Nat) : Int)))) = true)) ?_
      refine cf_go 3 ?_
      refine cf_see 18 (.bool false) (see_bool (by kernel_rfl) ((decide_eq_false (by omega)) : ((decide (((i : Nat) : Int) < 30))) = false)) ?_
      refine cf_go 16 ?_
      obtain ⟨l, hl⟩ : ∃ l, l = spL sp i := ⟨_, rfl⟩
      have hll : i = l.length := by rw [hl, spL_len]
      have gv8 := hgv
      have gw8 := hgw
      rw [← hl] at gv8 gw8
      have hl1 : l.length ≤ 1000 := by omega
      clear hl
      subst hll
      have lo0 : ∀ {H : Heap} {lo : Nat} {e : TypeId} {v : Value}, Gr H lo e 3 v l.length (ivs l) → Gr H 0 e 3 v l.length (ivs l) := fun g => ⟨g.size, g.at_.elim .inl fun ⟨B, h1, h2, h3, h4⟩ => .inr ⟨B, h1, h2, h3, by omega⟩⟩
      refine cf_loop 94 (cl (cl (cr (cl (cr (cr (cr (cr f4b)))))))) [.blk 2, .next (cr (cr (cr (cr (cr f4b)))))] (by kernel_rfl) (by kernel_rfl) (by kernel_rfl) (fun m9 s9 => ∃ (u : Nat) (HA : Heap), m9 = l.length - u ∧ u ≤ l.length ∧ HA.get H.n = some ⟨[(.slice pt1 ops.length cap1), (.slice pt2 az.length cap2), (.slice pt3 bs.length cap3), (.slice pt4 outs.length cap4), .int .i64 fl, .bool wr], 24, false⟩ ∧ Gr HA 0 40 3 (.slice pv l.length cv) l.length (ivs l) ∧ Gr HA 0 41 3 (.slice pw l.length cw) l.length (ivs l) ∧ H.n < HA.n ∧ Up H.n H HA ∧ Kn s9.tm [(2, .pointer (some ⟨H.n, 0, none⟩)), (4, .bool false), (5, (.slice pv l.length cv)), (6, (.slice pw l.length cw)), (10, .int .i64 ((u : Nat) : Int))] ∧ s9.H = HA) (l.length) ⟨0, H1, by omega, by omega, gD, lo0 gv8, lo0 gw8, by omega, (show Up H.n H H1 from ⟨by omega, fun b hb => by rw [uH1.get _ (by omega)]⟩), ⟨(by kernel_rfl), (by kernel_rfl), (by kernel_rfl), (by kernel_rfl), (by kernel_rfl), True.intro⟩, (by kernel_rfl)⟩ ?_
      rintro m9 s9 ⟨u, HA, hm4, hu, gD4, gv9, gw9, bD4, uHA, hkn, hH⟩ Rr4 hRr4
      refine cf_kn [(2, .pointer (some ⟨H.n, 0, none⟩)), (4, .bool false), (5, (.slice pv l.length cv)), (6, (.slice pw l.length cw)), (10, .int .i64 ((u : Nat) : Int))] hkn hH fun tm => ?_
      have nHA := uHA.n
      by_cases hlt4 : u < l.length
      · skip
        obtain ⟨a, ha⟩ : ∃ i_, l[u]? = some i_ := ⟨_, List.getElem?_eq_getElem hlt4⟩
        rcases gv9.at_ with ⟨_, h0⟩ | ⟨B0, heB0, gB0, hB0, _⟩
        · omega
        obtain ⟨rfl, rfl⟩ : pv = some ⟨B0, 0, none⟩ ∧ cv = unk + 3 := by injection heB0 with e1 _ e3; exact ⟨e1, e3⟩
        rcases gw9.at_ with ⟨_, h0⟩ | ⟨C0, heC0, gC0, hC0, _⟩
        · omega
        obtain ⟨rfl, rfl⟩ : pw = some ⟨C0, 0, none⟩ ∧ cw = unk + 3 := by injection heC0 with e1 _ e3; exact ⟨e1, e3⟩
        refine cf_go 7 ?_
        refine cf_see 53 (.bool true) (see_bool (by kernel_rfl) ((decide_eq_true (by omega)) : ((decide (((u : Nat) : Int) < ((l.length : Nat) : Int)))) = true)) ?_
        refine cf_go 13 ?_
        refine cf_loop 94 (cl (cl (cr (cl (cl (cr (cl (cl (cr (cl (cr (cr (cr (cr f4b)))))))))))))) [.blk 4, .blk 3, .next (cr (cr (cl (cl (cr (cl (cr (cr (cr (cr f4b)))))))))), .inv Rr4, .blk 2, .next (cr (cr (cr (cr (cr f4b)))))] (by kernel_rfl) (by kernel_rfl) (by kernel_rfl) (fun m9 s9 => ∃ (k : Nat) (HB : Heap), m9 = l.length - k ∧ k ≤ l.length ∧ HB.get H.n = some ⟨[(.slice pt1 ops.length cap1), (.slice pt2 az.length cap2), (.slice pt3 bs.length cap3), (.slice pt4 outs.length cap4), .int .i64 fl, .bool wr], 24, false⟩ ∧ HB.get B0 = some ⟨ivs l, 40, false⟩ ∧ HB.get C0 = some ⟨ivs l, 41, false⟩ ∧ B0 < HB.n ∧ C0 < HB.n ∧ H.n < HB.n ∧ Up H.n H HB ∧ Kn s9.tm [(2, .pointer (some ⟨H.n, 0, none⟩)), (4, .bool false), (5, .slice (some ⟨B0, 0, none⟩) l.length (unk + 3)), (6, .slice (some ⟨C0, 0, none⟩) l.length (unk + 3)), (10, .int .i64 ((u : Nat) : Int)), (11, .int .i64 ((k : Nat) : Int))] ∧ s9.H = HB) (l.length) ⟨0, HA, by omega, by omega, gD4, gB0, gC0, by omega, by omega, by omega, (show Up H.n H HA from ⟨by omega, fun b hb => by rw [uHA.get _ (by omega)]⟩), ⟨(by kernel_rfl), (by kernel_rfl), (by kernel_rfl), (by kernel_rfl), (by kernel_rfl), (by kernel_rfl), True.intro⟩, (by kernel_rfl)⟩ ?_
        rintro m9 s9 ⟨k, HB, hm5, hk, gD5, gBB, gCB, bB, bC, bD5, uHB, hkn, hH⟩ Rr5 hRr5
        refine cf_kn [(2, .pointer (some ⟨H.n, 0, none⟩)), (4, .bool false), (5, .slice (some ⟨B0, 0, none⟩) l.length (unk + 3)), (6, .slice (some ⟨C0, 0, none⟩) l.length (unk + 3)), (10, .int .i64 ((u : Nat) : Int)), (11, .int .i64 ((k : Nat) : Int))] hkn hH fun tm => ?_
        have nHB := uHB.n
        have gvX : Gr HB 0 40 3 (.slice (some ⟨B0, 0, none⟩) l.length (unk + 3)) l.length (ivs l) := Gr.iv gBB rfl bB (by omega)
        have gwX : Gr HB 0 41 3 (.slice (some ⟨C0, 0, none⟩) l.length (unk + 3)) l.length (ivs l) := Gr.iv gCB rfl bC (by omega)
        by_cases hlt5 : k < l.length
        · skip
          obtain ⟨b, hb⟩ : ∃ i_, l[k]? = some i_ := ⟨_, List.getElem?_eq_getElem hlt5⟩
          rcases Bool.eq_false_or_eq_true (meetB a.2.1 a.2.2 b.2.1 b.2.2) with hmt | hmt
          · skip
            refine cf_go 7 ?_
            refine cf_see 59 (.bool true) (see_bool (by kernel_rfl) ((decide_eq_true (by omega)) : ((decide (((k : Nat) : Int) < ((l.length : Nat) : Int)))) = true)) ?_
            refine cf_go 8 ?_
            refine cf_drawV (HB.n) (by kernel_rfl) ?_
            refine aopsV_go 2 (by kernel_rfl) (by kernel_rfl) ?_
            refine aopsV_val 64 (.pointer (some ⟨B0, 0 + u * 3, none⟩)) HB HB (by kernel_rfl) ((by kernel_rfl : _ = val (bif (u : Nat).blt l.length then some (.pointer (some ⟨B0, 0 + u * 3, none⟩)) else none) HB).trans (by rw [show (u : Nat).blt l.length = true from (by rw [blt_dec]; simp only [decide_eq_true_eq]; omega)]; rfl)) (by kernel_rfl) (calm_no (by kernel_rfl)) (by kernel_rfl) ?_
            refine aopsV_val 65 (.agg #[.int .i64 a.1, .int .i64 a.2.1, .int .i64 a.2.2]) HB HB (by kernel_rfl) ((by kernel_rfl : _ = val (aload T2 40 (.pointer (some ⟨B0, 0 + u * 3, none⟩)) HB) HB).trans (val_of ((aload_at gBB).trans (aloadC_rowB (n := 3) (l := ivC a) (by kernel_rfl) (by kernel_rfl) (by kernel_rfl) (ivs_at l u _ ha))))) (by kernel_rfl) (calm_no (by kernel_rfl)) (by kernel_rfl) ?_
            refine aopsV_go 2 (by kernel_rfl) (by kernel_rfl) ?_
            refine aopsV_val 68 (.pointer (some ⟨B0, 0 + k * 3, none⟩)) HB HB (by kernel_rfl) ((by kernel_rfl : _ = val (bif (k : Nat).blt l.length then some (.pointer (some ⟨B0, 0 + k * 3, none⟩)) else none) HB).trans (by rw [show (k : Nat).blt l.length = true from (by rw [blt_dec]; simp only [decide_eq_true_eq]; omega)]; rfl)) (by kernel_rfl) (calm_no (by kernel_rfl)) (by kernel_rfl) ?_
            refine aopsV_val 69 (.agg #[.int .i64 b.1, .int .i64 b.2.1, .int .i64 b.2.2]) HB HB (by kernel_rfl) ((by kernel_rfl : _ = val (aload T2 40 (.pointer (some ⟨B0, 0 + k * 3, none⟩)) HB) HB).trans (val_of ((aload_at gBB).trans (aloadC_rowB (n := 3) (l := ivC b) (by kernel_rfl) (by kernel_rfl) (by kernel_rfl) (ivs_at l k _ hb))))) (by kernel_rfl) (calm_no (by kernel_rfl)) (by kernel_rfl) ?_
            refine aopsV_call 70 13 #[.agg #[.int .i64 a.1, .int .i64 a.2.1, .int .i64 a.2.2], .agg #[.int .i64 b.1, .int .i64 b.2.1, .int .i64 b.2.2]] HB (by kernel_rfl) (by kernel_rfl) (by kernel_rfl) (meet_run a.1 a.2.1 a.2.2 b.1 b.2.1 b.2.2) (fun _ _ _ h => h.2) ?_
            rintro _ H14_ ⟨rfl, uH14_⟩
            have nH14_ := uH14_.n
            refine aopsV_see 70 (.bool true) (see_bool (by kernel_rfl) hmt) ?_
            refine aopsV_go 2 (by kernel_rfl) (by kernel_rfl) ?_
            refine aopsV_val 73 (.pointer (some ⟨C0, 0 + u * 3, none⟩)) H14_ H14_ (by kernel_rfl) ((by kernel_rfl : _ = val (bif (u : Nat).blt l.length then some (.pointer (some ⟨C0, 0 + u * 3, none⟩)) else none) H14_).trans (by rw [show (u : Nat).blt l.length = true from (by rw [blt_dec]; simp only [decide_eq_true_eq]; omega)]; rfl)) (by kernel_rfl) (fun _ => Up.refl _) (by kernel_rfl) ?_
            have gH14_C0 : H14_.get (C0) = some ⟨(ivs l), 41, false⟩ := by rw [uH14_.get _ (by omega)]; exact gCB
            refine aopsV_get 74 (.agg #[.int .i64 a.1, .int .i64 a.2.1, .int .i64 a.2.2]) (.pointer (some ⟨C0, 0 + u * 3, none⟩)) (.tmp 73) H14_ (by kernel_rfl) (by kernel_rfl) (by kernel_rfl) (by kernel_rfl) ((by kernel_rfl : _ = aload T2 41 (.pointer (some ⟨C0, 0 + u * 3, none⟩)) H14_).trans ((aload_at gH14_C0).trans (aloadC_rowB (n := 3) (l := ivC a) (by kernel_rfl) (by kernel_rfl) (by kernel_rfl) (ivs_at l u _ ha)))) (veqs_c (veq_int _ _) (veqs_c (veq_int _ _) (veqs_c (veq_int _ _) rfl))) (lowB_ptr (by omega)) ((by kernel_rfl : _ = val (aload T2 41 (.pointer (some ⟨C0, 0 + u * 3, none⟩)) H14_) H14_).trans (val_to ((aload_at gH14_C0).trans (aloadC_rowB (n := 3) (l := ivC a) (by kernel_rfl) (by kernel_rfl) (by kernel_rfl) (ivs_at l u _ ha))) (by kernel_rfl))) ?_
            refine aopsV_go 2 (by kernel_rfl) (by kernel_rfl) ?_
            refine aopsV_val 77 (.pointer (some ⟨C0, 0 + k * 3, none⟩)) H14_ H14_ (by kernel_rfl) ((by kernel_rfl : _ = val (bif (k : Nat).blt l.length then some (.pointer (some ⟨C0, 0 + k * 3, none⟩)) else none) H14_).trans (by rw [show (k : Nat).blt l.length = true from (by rw [blt_dec]; simp only [decide_eq_true_eq]; omega)]; rfl)) (by kernel_rfl) (fun _ => Up.refl _) (by kernel_rfl) ?_
            refine aopsV_get 78 (.agg #[.int .i64 b.1, .int .i64 b.2.1, .int .i64 b.2.2]) (.pointer (some ⟨C0, 0 + k * 3, none⟩)) (.tmp 77) H14_ (by kernel_rfl) (by kernel_rfl) (by kernel_rfl) (by kernel_rfl) ((by kernel_rfl : _ = aload T2 41 (.pointer (some ⟨C0, 0 + k * 3, none⟩)) H14_).trans ((aload_at gH14_C0).trans (aloadC_rowB (n := 3) (l := ivC b) (by kernel_rfl) (by kernel_rfl) (by kernel_rfl) (ivs_at l k _ hb)))) (veqs_c (veq_int _ _) (veqs_c (veq_int _ _) (veqs_c (veq_int _ _) rfl))) (lowB_ptr (by omega)) ((by kernel_rfl : _ = val (aload T2 41 (.pointer (some ⟨C0, 0 + k * 3, none⟩)) H14_) H14_).trans (val_to ((aload_at gH14_C0).trans (aloadC_rowB (n := 3) (l := ivC b) (by kernel_rfl) (by kernel_rfl) (by kernel_rfl) (ivs_at l k _ hb))) (by kernel_rfl))) ?_
            refine aopsV_call 79 14 #[.agg #[.int .i64 a.1, .int .i64 a.2.1, .int .i64 a.2.2], .agg #[.int .i64 b.1, .int .i64 b.2.1, .int .i64 b.2.2]] H14_ (by kernel_rfl) (by kernel_rfl) (by kernel_rfl) (rmeet_run a.1 a.2.1 a.2.2 b.1 b.2.1 b.2.2) (calm_no (by kernel_rfl)) ?_
            rintro _ H15_ ⟨rfl, uH15_⟩
            have nH15_ := uH15_.n
            refine aopsV_see 79 (.bool true) (see_bool (by kernel_rfl) hmt) ?_
            refine aopsV_go 1 (by kernel_rfl) (by kernel_rfl) ?_
            refine aopsV_end (by kernel_rfl) ?_
            refine cf_go 8 ?_
            refine cf_see 61 (.int .i64 ((k + 1 : Nat) : Int)) (see_int (x := (IntKind.i64.wrap (((k : Nat) : Int) + 1))) (by kernel_rfl) (w64 (by omega) (by omega) (by omega))) ?_
            refine cf_go 2 ?_
            have gH15_H_n : H15_.get (H.n) = some ⟨[(.slice pt1 ops.length cap1), (.slice pt2 az.length cap2), (.slice pt3 bs.length cap3), (.slice pt4 outs.length cap4), .int .i64 fl, .bool wr], 24, false⟩ := by rw [uH15_.get _ (by omega)]; rw [uH14_.get _ (by omega)]; exact gD5
            have gH15_B0 : H15_.get (B0) = some ⟨(ivs l), 40, false⟩ := by rw [uH15_.get _ (by omega)]; rw [uH14_.get _ (by omega)]; exact gBB
            have gH15_C0 : H15_.get (C0) = some ⟨(ivs l), 41, false⟩ := by rw [uH15_.get _ (by omega)]; exact gH14_C0
            refine cf_inv Rr5 (by kernel_rfl) (hRr5 _ ⟨l.length - (k + 1), by omega, k + 1, H15_, rfl, by omega, gH15_H_n, gH15_B0, gH15_C0, by omega, by omega, by omega, (show Up H.n H H15_ from ⟨by omega, fun b hb => by rw [uH15_.get _ (by omega), uH14_.get _ (by omega), uHB.get _ (by omega)]⟩), ⟨(by kernel_rfl), (by kernel_rfl), (by kernel_rfl), (by kernel_rfl), (by kernel_rfl), (by kernel_rfl), True.intro⟩, (by kernel_rfl)⟩)
          · skip
            refine cf_go 7 ?_
            refine cf_see 59 (.bool true) (see_bool (by kernel_rfl) ((decide_eq_true (by omega)) : ((decide (((k : Nat) : Int) < ((l.length : Nat) : Int)))) = true)) ?_
            refine cf_go 8 ?_
            refine cf_drawV (HB.n) (by kernel_rfl) ?_
            refine aopsV_go 2 (by kernel_rfl) (by kernel_rfl) ?_
            refine aopsV_val 64 (.pointer (some ⟨B0, 0 + u * 3, none⟩)) HB HB (by kernel_rfl) ((by kernel_rfl : _ = val (bif (u : Nat).blt l.length then some (.pointer (some ⟨B0, 0 + u * 3, none⟩)) else none) HB).trans (by rw [show (u : Nat).blt l.length = true from (by rw [blt_dec]; simp only [decide_eq_true_eq]; omega)]; rfl)) (by kernel_rfl) (calm_no (by kernel_rfl)) (by kernel_rfl) ?_
            refine aopsV_val 65 (.agg #[.int .i64 a.1, .int .i64 a.2.1, .int .i64 a.2.2]) HB HB (by kernel_rfl) ((by kernel_rfl : _ = val (aload T2 40 (.pointer (some ⟨B0, 0 + u * 3, none⟩)) HB) HB).trans (val_of ((aload_at gBB).trans (aloadC_rowB (n := 3) (l := ivC a) (by kernel_rfl) (by kernel_rfl) (by kernel_rfl) (ivs_at l u _ ha))))) (by kernel_rfl) (calm_no (by kernel_rfl)) (by kernel_rfl) ?_
            refine aopsV_go 2 (by kernel_rfl) (by kernel_rfl) ?_
            refine aopsV_val 68 (.pointer (some ⟨B0, 0 + k * 3, none⟩)) HB HB (by kernel_rfl) ((by kernel_rfl : _ = val (bif (k : Nat).blt l.length then some (.pointer (some ⟨B0, 0 + k * 3, none⟩)) else none) HB).trans (by rw [show (k : Nat).blt l.length = true from (by rw [blt_dec]; simp only [decide_eq_true_eq]; omega)]; rfl)) (by kernel_rfl) (calm_no (by kernel_rfl)) (by kernel_rfl) ?_
            refine aopsV_val 69 (.agg #[.int .i64 b.1, .int .i64 b.2.1, .int .i64 b.2.2]) HB HB (by kernel_rfl) ((by kernel_rfl : _ = val (aload T2 40 (.pointer (some ⟨B0, 0 + k * 3, none⟩)) HB) HB).trans (val_of ((aload_at gBB).trans (aloadC_rowB (n := 3) (l := ivC b) (by kernel_rfl) (by kernel_rfl) (by kernel_rfl) (ivs_at l k _ hb))))) (by kernel_rfl) (calm_no (by kernel_rfl)) (by kernel_rfl) ?_
            refine aopsV_call 70 13 #[.agg #[.int .i64 a.1, .int .i64 a.2.1, .int .i64 a.2.2], .agg #[.int .i64 b.1, .int .i64 b.2.1, .int .i64 b.2.2]] HB (by kernel_rfl) (by kernel_rfl) (by kernel_rfl) (meet_run a.1 a.2.1 a.2.2 b.1 b.2.1 b.2.2) (fun _ _ _ h => h.2) ?_
            rintro _ H16_ ⟨rfl, uH16_⟩
            have nH16_ := uH16_.n
            refine aopsV_see 70 (.bool false) (see_bool (by kernel_rfl) hmt) ?_
            refine aopsV_go 2 (by kernel_rfl) (by kernel_rfl) ?_
            refine aopsV_val 73 (.pointer (some ⟨C0, 0 + u * 3, none⟩)) H16_ H16_ (by kernel_rfl) ((by kernel_rfl : _ = val (bif (u : Nat).blt l.length then some (.pointer (some ⟨C0, 0 + u * 3, none⟩)) else none) H16_).trans (by rw [show (u : Nat).blt l.length = true from (by rw [blt_dec]; simp only [decide_eq_true_eq]; omega)]; rfl)) (by kernel_rfl) (fun _ => Up.refl _) (by kernel_rfl) ?_
            have gH16_C0 : H16_.get (C0) = some ⟨(ivs l), 41, false⟩ := by rw [uH16_.get _ (by omega)]; exact gCB
            refine aopsV_get 74 (.agg #[.int .i64 a.1, .int .i64 a.2.1, .int .i64 a.2.2]) (.pointer (some ⟨C0, 0 + u * 3, none⟩)) (.tmp 73) H16_ (by kernel_rfl) (by kernel_rfl) (by kernel_rfl) (by kernel_rfl) ((by kernel_rfl : _ = aload T2 41 (.pointer (some ⟨C0, 0 + u * 3, none⟩)) H16_).trans ((aload_at gH16_C0).trans (aloadC_rowB (n := 3) (l := ivC a) (by kernel_rfl) (by kernel_rfl) (by kernel_rfl) (ivs_at l u _ ha)))) (veqs_c (veq_int _ _) (veqs_c (veq_int _ _) (veqs_c (veq_int _ _) rfl))) (lowB_ptr (by omega)) ((by kernel_rfl : _ = val (aload T2 41 (.pointer (some ⟨C0, 0 + u * 3, none⟩)) H16_) H16_).trans (val_to ((aload_at gH16_C0).trans (aloadC_rowB (n := 3) (l := ivC a) (by kernel_rfl) (by kernel_rfl) (by kernel_rfl) (ivs_at l u _ ha))) (by kernel_rfl))) ?_
            refine aopsV_go 2 (by kernel_rfl) (by kernel_rfl) ?_
            refine aopsV_val 77 (.pointer (some ⟨C0, 0 + k * 3, none⟩)) H16_ H16_ (by kernel_rfl) ((by kernel_rfl : _ = val (bif (k : Nat).blt l.length then some (.pointer (some ⟨C0, 0 + k * 3, none⟩)) else none) H16_).trans (by rw [show (k : Nat).blt l.length = true from (by rw [blt_dec]; simp only [decide_eq_true_eq]; omega)]; rfl)) (by kernel_rfl) (fun _ => Up.refl _) (by kernel_rfl) ?_
            refine aopsV_get 78 (.agg #[.int .i64 b.1, .int .i64 b.2.1, .int .i64 b.2.2]) (.pointer (some ⟨C0, 0 + k * 3, none⟩)) (.tmp 77) H16_ (by kernel_rfl) (by kernel_rfl) (by kernel_rfl) (by kernel_rfl) ((by kernel_rfl : _ = aload T2 41 (.pointer (some ⟨C0, 0 + k * 3, none⟩)) H16_).trans ((aload_at gH16_C0).trans (aloadC_rowB (n := 3) (l := ivC b) (by kernel_rfl) (by kernel_rfl) (by kernel_rfl) (ivs_at l k _ hb)))) (veqs_c (veq_int _ _) (veqs_c (veq_int _ _) (veqs_c (veq_int _ _) rfl))) (lowB_ptr (by omega)) ((by kernel_rfl : _ = val (aload T2 41 (.pointer (some ⟨C0, 0 + k * 3, none⟩)) H16_) H16_).trans (val_to ((aload_at gH16_C0).trans (aloadC_rowB (n := 3) (l := ivC b) (by kernel_rfl) (by kernel_rfl) (by kernel_rfl) (ivs_at l k _ hb))) (by kernel_rfl))) ?_
            refine aopsV_call 79 14 #[.agg #[.int .i64 a.1, .int .i64 a.2.1, .int .i64 a.2.2], .agg #[.int .i64 b.1, .int .i64 b.2.1, .int .i64 b.2.2]] H16_ (by kernel_rfl) (by kernel_rfl) (by kernel_rfl) (rmeet_run a.1 a.2.1 a.2.2 b.1 b.2.1 b.2.2) (calm_no (by kernel_rfl)) ?_
            rintro _ H17_ ⟨rfl, uH17_⟩
            have nH17_ := uH17_.n
            refine aopsV_see 79 (.bool false) (see_bool (by kernel_rfl) hmt) ?_
            refine aopsV_go 1 (by kernel_rfl) (by kernel_rfl) ?_
            refine aopsV_end (by kernel_rfl) ?_
            refine cf_go 8 ?_
            refine cf_see 61 (.int .i64 ((k + 1 : Nat) : Int)) (see_int (x := (IntKind.i64.wrap (((k : Nat) : Int) + 1))) (by kernel_rfl) (w64 (by omega) (by omega) (by omega))) ?_
            refine cf_go 2 ?_
            have gH17_H_n : H17_.get (H.n) = some ⟨[(.slice pt1 ops.length cap1), (.slice pt2 az.length cap2), (.slice pt3 bs.length cap3), (.slice pt4 outs.length cap4), .int .i64 fl, .bool wr], 24, false⟩ := by rw [uH17_.get _ (by omega)]; rw [uH16_.get _ (by omega)]; exact gD5
            have gH17_B0 : H17_.get (B0) = some ⟨(ivs l), 40, false⟩ := by rw [uH17_.get _ (by omega)]; rw [uH16_.get _ (by omega)]; exact gBB
            have gH17_C0 : H17_.get (C0) = some ⟨(ivs l), 41, false⟩ := by rw [uH17_.get _ (by omega)]; exact gH16_C0
            refine cf_inv Rr5 (by kernel_rfl) (hRr5 _ ⟨l.length - (k + 1), by omega, k + 1, H17_, rfl, by omega, gH17_H_n, gH17_B0, gH17_C0, by omega, by omega, by omega, (show Up H.n H H17_ from ⟨by omega, fun b hb => by rw [uH17_.get _ (by omega), uH16_.get _ (by omega), uHB.get _ (by omega)]⟩), ⟨(by kernel_rfl), (by kernel_rfl), (by kernel_rfl), (by kernel_rfl), (by kernel_rfl), (by kernel_rfl), True.intro⟩, (by kernel_rfl)⟩)
        · skip
          have hke : k = l.length := by omega
          refine cf_go 7 ?_
          refine cf_see 59 (.bool false) (see_bool (by kernel_rfl) ((decide_eq_false (by omega)) : ((decide (((k : Nat) : Int) < ((l.length : Nat) : Int)))) = false)) ?_
          refine cf_go 12 ?_
          refine cf_see 55 (.int .i64 ((u + 1 : Nat) : Int)) (see_int (x := (IntKind.i64.wrap (((u : Nat) : Int) + 1))) (by kernel_rfl) (w64 (by omega) (by omega) (by omega))) ?_
          refine cf_go 2 ?_
          refine cf_inv Rr4 (by kernel_rfl) (hRr4 _ ⟨l.length - (u + 1), by omega, u + 1, HB, rfl, by omega, gD5, gvX, gwX, by omega, (show Up H.n H HB from ⟨by omega, fun b hb => by rw [uHB.get _ (by omega)]⟩), ⟨(by kernel_rfl), (by kernel_rfl), (by kernel_rfl), (by kernel_rfl), (by kernel_rfl), True.intro⟩, (by kernel_rfl)⟩)
      · skip
        have hie : u = l.length := by omega
        refine cf_go 7 ?_
        refine cf_see 53 (.bool false) (see_bool (by kernel_rfl) ((decide_eq_false (by omega)) : ((decide (((u : Nat) : Int) < ((l.length : Nat) : Int)))) = false)) ?_
        refine cf_go 10 ?_
        refine cf_val 81 (.agg #[(.slice pt1 ops.length cap1), (.slice pt2 az.length cap2), (.slice pt3 bs.length cap3), (.slice pt4 outs.length cap4), .int .i64 fl, .bool wr]) HA (by kernel_rfl) ((by kernel_rfl : _ = val (aload T2 24 (.pointer (some ⟨H.n, 0, none⟩)) HA) HA).trans (val_of ((aload_at gD4).trans (by kernel_rfl)))) ?_
        have hU9 : Up H.n H HA := (show Up H.n H HA from ⟨by omega, fun b hb => by rw [uHA.get _ (by omega)]⟩)
        refine cf_call 82 9 #[.agg #[(.slice pt1 ops.length cap1), (.slice pt2 az.length cap2), (.slice pt3 bs.length cap3), (.slice pt4 outs.length cap4), .int .i64 fl, .bool wr]] HA (by kernel_rfl) (by kernel_rfl) (by kernel_rfl) (made_run hc ho hf9 hv (NumsA.up hN1 hU9) hr1 (NumsA.up hN2 hU9) hr2 (NumsA.up hN3 hU9) hr3 (NumsA.up hN4 hU9) hr4 hf) ?_
        rintro _ H18_ ⟨pc, cc, po, co, rfl, gc, go, uH18_⟩
        have nH18_ := uH18_.n
        refine cf_call 83 8 #[.agg #[(.slice pc c.length cc), .int .i64 0, .int .i64 0, .int .i64 0, .int .i64 0, (.slice po o.length co), .slice none 0 0, .int .i64 f, .int .u32 0, .int .i64 (-1), .int .i64 0, .int .u32 0, .int .i64 1, .int .i64 ((vs : Nat) : Int)]] H18_ (by kernel_rfl) (by kernel_rfl) (by kernel_rfl) (same_any hvs ok9 gc go) ?_
        rintro _ H19_ ⟨rfl, uH19_⟩
        have nH19_ := uH19_.n
        refine cf_go 2 ?_
        refine cf_call 86 15 #[(.slice pv l.length cv)] H19_ (by kernel_rfl) (by kernel_rfl) (by kernel_rfl) (press_run hl1 (gv9.keep (lo' := 0) (by omega) (fun b hb1 hb2 => by rw [uH19_.get _ (by omega), uH18_.get _ (by omega)]))) ?_
        rintro _ H20_ ⟨rfl, uH20_⟩
        have nH20_ := uH20_.n
        refine cf_go 1 ?_
        refine cf_call 88 16 #[(.slice pw l.length cw)] H20_ (by kernel_rfl) (by kernel_rfl) (by kernel_rfl) (rpress_runM hl1 (gw9.keep (lo' := 0) (by omega) (fun b hb1 hb2 => by rw [uH20_.get _ (by omega), uH19_.get _ (by omega), uH18_.get _ (by omega)]))) ?_
        rintro _ H21_ ⟨rfl, uH21_⟩
        have nH21_ := uH21_.n
        refine cf_go 1 ?_
        refine cf_see 89 (.bool true) (see_bool (by kernel_rfl) ((beq_self_eq_true _) : ((((most l l) : Int) == (most l l))) = true)) ?_
        refine cf_go 2 ?_
        refine cf_ask 92 (.bool true) 11 #[] (by kernel_rfl) (by kernel_rfl) (by kernel_rfl) ?_
        refine cf_go 5 ?_
        refine cf_end (.bool true) H21_ (by kernel_rfl) (by kernel_rfl) (by kernel_rfl) ?_
        exact (by kernel_rfl)
end Lm
end Go.Proofs.Ytahikechkggbfaa
