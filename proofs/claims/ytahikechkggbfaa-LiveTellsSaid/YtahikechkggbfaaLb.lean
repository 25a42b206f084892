/- Chapter 20: made. -/
import Derived.Test.YtahikechkggbfaaLa
namespace Go.Proofs.Ytahikechkggbfaa
open Go Go.Ev Go.RowKit
set_option linter.unusedVariables false
set_option linter.unusedSimpArgs false
set_option maxRecDepth 100000
namespace Lm
noncomputable def f9b : Code := Try.f9.body.getD .skip
theorem f9_body : Try.f9.body = some f9b := by kernel_rfl
theorem f9_fn : T2.fn 9 = some Try.f9 := by kernel_rfl
set_option maxHeartbeats 4000000 in
theorem made_at {H : Heap} {ops az bs outs : List Int} {pt1 pt2 pt3 pt4 : Option Addr} {cap1 cap2 cap3 cap4 : Nat} {fl : Int} {wr : Bool} (hN1 : NumsA H .i64 (.slice pt1 ops.length cap1) ops) (hr1 : ∀ x ∈ ops, i64B x = true) (hN2 : NumsA H .i64 (.slice pt2 az.length cap2) az) (hr2 : ∀ x ∈ az, i64B x = true) (hN3 : NumsA H .i64 (.slice pt3 bs.length cap3) bs) (hr3 : ∀ x ∈ bs, i64B x = true) (hN4 : NumsA H .i64 (.slice pt4 outs.length cap4) outs) (hr4 : ∀ x ∈ outs, i64B x = true) (hf : i64B fl = true) : ACall Try.prog T2 9 #[.agg #[(.slice pt1 ops.length cap1), (.slice pt2 az.length cap2), (.slice pt3 bs.length cap3), (.slice pt4 outs.length cap4), .int .i64 fl, .bool wr]] H fun r H' => Made H H' r (mkC ops az bs (mkN ops az bs)) (mkO outs (mkN ops az bs) (mkM outs (mkN ops az bs))) (mkF fl (mkN ops az bs)) (mkW wr (mkN ops az bs)) := by
  refine acall_cf 138 (initTm 0 #[.agg #[(.slice pt1 ops.length cap1), (.slice pt2 az.length cap2), (.slice pt3 bs.length cap3), (.slice pt4 outs.length cap4), .int .i64 fl, .bool wr]]) rfl f9_fn f9_body rfl rfl ?_
  refine cf_go 2 ?_
  obtain ⟨H1_, hH1_⟩ : ∃ x : Heap, x = H.push ⟨[(.slice pt1 ops.length cap1), (.slice pt2 az.length cap2), (.slice pt3 bs.length cap3), (.slice pt4 outs.length cap4), .int .i64 fl, .bool wr], 24, false⟩ := ⟨_, rfl⟩
  have nH1_ : H1_.n = H.n + 1 := by rw [hH1_]; rfl
  refine cf_val 1 (.pointer (some ⟨H.n, 0, none⟩)) H1_ (by kernel_rfl) ((by kernel_rfl : _ = some (Res.val (.pointer (some ⟨H.n, 0, none⟩)), H.push ⟨[(.slice pt1 ops.length cap1), (.slice pt2 az.length cap2), (.slice pt3 bs.length cap3), (.slice pt4 outs.length cap4), .int .i64 fl, .bool wr], 24, false⟩)).trans (by rw [← hH1_])) ?_
  obtain ⟨H2_, hH2_⟩ : ∃ x : Heap, x = H1_.push ⟨[Value.slice none 0 0, .int .i64 0, .int .i64 0, .int .i64 0, .int .i64 0, .slice none 0 0, .slice none 0 0, .int .i64 0, .int .u32 0, .int .i64 0, .int .i64 0, .int .u32 0, .int .i64 0, .int .i64 0], 29, false⟩ := ⟨_, rfl⟩
  have nH2_ : H2_.n = H1_.n + 1 := by rw [hH2_]; rfl
  refine cf_val 2 (.pointer (some ⟨H1_.n, 0, none⟩)) H2_ (by kernel_rfl) ((by kernel_rfl : _ = some (Res.val (.pointer (some ⟨H1_.n, 0, none⟩)), H1_.push ⟨[Value.slice none 0 0, .int .i64 0, .int .i64 0, .int .i64 0, .int .i64 0, .slice none 0 0, .slice none 0 0, .int .i64 0, .int .u32 0, .int .i64 0, .int .i64 0, .int .u32 0, .int .i64 0, .int .i64 0], 29, false⟩)).trans (by rw [← hH2_])) ?_
  refine cf_go 5 ?_
  obtain ⟨H3_, hH3_⟩ : ∃ x : Heap, x = H2_.push ⟨[Value.slice none 0 0, .int .i64 0, .int .i64 0, .int .i64 0, .int .i64 0, .slice none 0 0, .slice none 0 0, .int .i64 0, .int .u32 0, .int .i64 0, .int .i64 0, .int .u32 0, .int .i64 0, .int .i64 0], 29, false⟩ := ⟨_, rfl⟩
  have nH3_ : H3_.n = H2_.n + 1 := by rw [hH3_]; rfl
  refine cf_val 3 (.pointer (some ⟨H2_.n, 0, none⟩)) H3_ (by kernel_rfl) ((by kernel_rfl : _ = some (Res.val (.pointer (some ⟨H2_.n, 0, none⟩)), H2_.push ⟨[Value.slice none 0 0, .int .i64 0, .int .i64 0, .int .i64 0, .int .i64 0, .slice none 0 0, .slice none 0 0, .int .i64 0, .int .u32 0, .int .i64 0, .int .i64 0, .int .u32 0, .int .i64 0, .int .i64 0], 29, false⟩)).trans (by rw [← hH3_])) ?_
  have gH3_H2__n : H3_.get (H2_.n) = some ⟨[Value.slice none 0 0, .int .i64 0, .int .i64 0, .int .i64 0, .int .i64 0, .slice none 0 0, .slice none 0 0, .int .i64 0, .int .u32 0, .int .i64 0, .int .i64 0, .int .u32 0, .int .i64 0, .int .i64 0], 29, false⟩ := by rw [hH3_]; exact (Heap.get_push _ _ _).trans (if_pos rfl)
  obtain ⟨H4_, hH4_⟩ : ∃ x : Heap, x = H3_.put (H2_.n) ⟨[Value.slice none 0 0, .int .i64 0, .int .i64 0, .int .i64 0, .int .i64 0, .slice none 0 0, .slice none 0 0, .int .i64 (-1), .int .u32 0, .int .i64 (-1), .int .i64 0, .int .u32 0, .int .i64 1, .int .i64 0], 29, false⟩ := ⟨_, rfl⟩
  have nH4_ : H4_.n = H3_.n := by rw [hH4_]; rfl
  refine cf_skip H4_ (by kernel_rfl) ((by kernel_rfl : _ = skp (astore T2 29 (.pointer (some ⟨H2_.n, 0, none⟩)) (.agg #[.slice none 0 0, .int .i64 0, .int .i64 0, .int .i64 0, .int .i64 0, .slice none 0 0, .slice none 0 0, .int .i64 (-1), .int .u32 0, .int .i64 (-1), .int .i64 0, .int .u32 0, .int .i64 1, .int .i64 0]) H3_)).trans (by rw [astore_to gH3_H2__n (by kernel_rfl), ← hH4_]; rfl)) ?_
  refine cf_go 9 ?_
  have hfb := hf
  simp only [i64B, Bool.and_eq_true, decide_eq_true_eq] at hfb
  obtain ⟨N, hN⟩ : ∃ N, N = min (min ops.length az.length) (min bs.length 30) := ⟨_, rfl⟩
  have gH4_H_n : H4_.get (H.n) = some ⟨[(.slice pt1 ops.length cap1), (.slice pt2 az.length cap2), (.slice pt3 bs.length cap3), (.slice pt4 outs.length cap4), .int .i64 fl, .bool wr], 24, false⟩ := by rw [hH4_, Heap.get_put, if_neg (by omega)]; rw [hH3_, Heap.get_push, if_neg (by omega)]; rw [hH2_, Heap.get_push, if_neg (by omega)]; rw [hH1_]; exact (Heap.get_push _ _ _).trans (if_pos rfl)
  have gH4_H1__n : H4_.get (H1_.n) = some ⟨[Value.slice none 0 0, .int .i64 0, .int .i64 0, .int .i64 0, .int .i64 0, .slice none 0 0, .slice none 0 0, .int .i64 0, .int .u32 0, .int .i64 0, .int .i64 0, .int .u32 0, .int .i64 0, .int .i64 0], 29, false⟩ := by rw [hH4_, Heap.get_put, if_neg (by omega)]; rw [hH3_, Heap.get_push, if_neg (by omega)]; rw [hH2_]; exact (Heap.get_push _ _ _).trans (if_pos rfl)
  have gH4_H2__n : H4_.get (H2_.n) = some ⟨[Value.slice none 0 0, .int .i64 0, .int .i64 0, .int .i64 0, .int .i64 0, .slice none 0 0, .slice none 0 0, .int .i64 (-1), .int .u32 0, .int .i64 (-1), .int .i64 0, .int .u32 0, .int .i64 1, .int .i64 0], 29, false⟩ := by rw [hH4_]; exact (Heap.get_put _ _ _ _).trans (if_pos rfl)
  obtain ⟨D, hD⟩ : ∃ D, D = H.n := ⟨_, rfl⟩
  obtain ⟨T2_, hT2⟩ : ∃ D, D = H1_.n := ⟨_, rfl⟩
  obtain ⟨PP, hPP⟩ : ∃ D, D = H2_.n := ⟨_, rfl⟩
  rw [← hD] at gH4_H_n
  rw [← hT2] at gH4_H1__n
  rw [← hPP] at gH4_H2__n
  refine cf_loop 138 (cl (cl (cr (cl (cr (cr f9b)))))) [.blk 0, .next (cr (cr (cr f9b)))] (by kernel_rfl) (by kernel_rfl) (by kernel_rfl) (fun m9 s9 => ∃ (k : Nat) (cv : Value) (H1 : Heap), m9 = N - k ∧ k ≤ N ∧ H1.get D = some ⟨[(.slice pt1 ops.length cap1), (.slice pt2 az.length cap2), (.slice pt3 bs.length cap3), (.slice pt4 outs.length cap4), .int .i64 fl, .bool wr], 24, false⟩ ∧ H1.get T2_ = some ⟨[Value.slice none 0 0, .int .i64 0, .int .i64 0, .int .i64 0, .int .i64 0, .slice none 0 0, .slice none 0 0, .int .i64 0, .int .u32 0, .int .i64 0, .int .i64 0, .int .u32 0, .int .i64 0, .int .i64 0], 29, false⟩ ∧ H1.get PP = some ⟨[cv, .int .i64 0, .int .i64 0, .int .i64 0, .int .i64 0, .slice none 0 0, .slice none 0 0, .int .i64 (-1), .int .u32 0, .int .i64 (-1), .int .i64 0, .int .u32 0, .int .i64 1, .int .i64 0], 29, false⟩ ∧ Gr H1 H.n 50 5 cv k (iis (mkC ops az bs k)) ∧ D < H1.n ∧ T2_ < H1.n ∧ PP < H1.n ∧ Up H.n H H1 ∧ Kn s9.tm [(1, .pointer (some ⟨D, 0, none⟩)), (2, .pointer (some ⟨T2_, 0, none⟩)), (3, .pointer (some ⟨PP, 0, none⟩)), (4, .int .i64 ((k : Nat) : Int))] ∧ s9.H = H1) (N) ⟨0, .slice none 0 0, H4_, by omega, by omega, gH4_H_n, gH4_H1__n, gH4_H2__n, Gr.nil, by omega, by omega, by omega, (show Up H.n H H4_ from ⟨by omega, fun b hb => by rw [hH4_, Heap.get_put, if_neg (by omega), hH3_, Heap.get_push, if_neg (by omega), hH2_, Heap.get_push, if_neg (by omega), hH1_, Heap.get_push, if_neg (by omega)]⟩), ⟨(by rw [hD]; kernel_rfl), (by rw [hT2]; kernel_rfl), (by rw [hPP]; kernel_rfl), (by kernel_rfl), True.intro⟩, (by kernel_rfl)⟩ ?_
  rintro m9 s9 ⟨k, cv, H1, hm, hk, gD, gT, gP, hgr, bD, bT, bP, uH1, hkn, hH⟩ Rr1 hRr1
  refine cf_kn [(1, .pointer (some ⟨D, 0, none⟩)), (2, .pointer (some ⟨T2_, 0, none⟩)), (3, .pointer (some ⟨PP, 0, none⟩)), (4, .int .i64 ((k : Nat) : Int))] hkn hH fun tm => ?_
  have nH1 := uH1.n
  have dD : H.n ≤ D := by omega
  have dT : H.n ≤ T2_ := by omega
  have dP : H.n ≤ PP := by omega
  have nDT : D ≠ T2_ := by omega
  have nDP : D ≠ PP := by omega
  have nTP : T2_ ≠ PP := by omega
  obtain ⟨pc, cc, rfl⟩ := Gr.sl hgr
  by_cases hlt : k < N
  · skip
    obtain ⟨o, ho⟩ : ∃ x, ops[k]? = some x := ⟨_, List.getElem?_eq_getElem (by omega)⟩
    have io := hr1 _ (List.mem_of_getElem? ho)
    simp only [i64B, Bool.and_eq_true, decide_eq_true_eq] at io
    have eo := getD_at ho
    rcases hN1.at_ with ⟨_, _, h0⟩ | ⟨A1, off1, cq1, cells1, e1, ro1, he1, gA1, hA1, hc1⟩
    · rw [h0] at ho; simp at ho
    obtain ⟨rfl, rfl⟩ : pt1 = some ⟨A1, off1, none⟩ ∧ cap1 = cq1 := by injection he1 with e1 _ e3; exact ⟨e1, e3⟩
    have co : cells1[off1 + k * 1]? = some (.int .i64 o) := by have hk9 : k < ops.length := (List.getElem?_eq_some_iff.1 ho).1; have := hc1 k hk9; rw [List.getElem?_eq_getElem hk9] at ho; rw [this, Option.some.inj ho]
    obtain ⟨a, ha⟩ : ∃ x, az[k]? = some x := ⟨_, List.getElem?_eq_getElem (by omega)⟩
    have ia := hr2 _ (List.mem_of_getElem? ha)
    simp only [i64B, Bool.and_eq_true, decide_eq_true_eq] at ia
    have ea := getD_at ha
    rcases hN2.at_ with ⟨_, _, h0⟩ | ⟨A2, off2, cq2, cells2, e2, ro2, he2, gA2, hA2, hc2⟩
    · rw [h0] at ha; simp at ha
    obtain ⟨rfl, rfl⟩ : pt2 = some ⟨A2, off2, none⟩ ∧ cap2 = cq2 := by injection he2 with e1 _ e3; exact ⟨e1, e3⟩
    have ca : cells2[off2 + k * 1]? = some (.int .i64 a) := by have hk9 : k < az.length := (List.getElem?_eq_some_iff.1 ha).1; have := hc2 k hk9; rw [List.getElem?_eq_getElem hk9] at ha; rw [this, Option.some.inj ha]
    obtain ⟨b, hb⟩ : ∃ x, bs[k]? = some x := ⟨_, List.getElem?_eq_getElem (by omega)⟩
    have ib := hr3 _ (List.mem_of_getElem? hb)
    simp only [i64B, Bool.and_eq_true, decide_eq_true_eq] at ib
    have eb := getD_at hb
    rcases hN3.at_ with ⟨_, _, h0⟩ | ⟨A3, off3, cq3, cells3, e3, ro3, he3, gA3, hA3, hc3⟩
    · rw [h0] at hb; simp at hb
    obtain ⟨rfl, rfl⟩ : pt3 = some ⟨A3, off3, none⟩ ∧ cap3 = cq3 := by injection he3 with e1 _ e3; exact ⟨e1, e3⟩
    have cb : cells3[off3 + k * 1]? = some (.int .i64 b) := by have hk9 : k < bs.length := (List.getElem?_eq_some_iff.1 hb).1; have := hc3 k hk9; rw [List.getElem?_eq_getElem hk9] at hb; rw [this, Option.some.inj hb]
    by_cases hk0 : k = 0
    · skip
      refine cf_go 5 ?_
      refine cf_val 10 (.slice (some ⟨A1, off1, none⟩) ops.length cap1) H1 (by kernel_rfl) ((by kernel_rfl : _ = val (aload T2 22 (.pointer (some ⟨D, 0, none⟩)) H1) H1).trans (val_of ((aload_at gD).trans (by kernel_rfl)))) ?_
      refine cf_go 2 ?_
      refine cf_see 12 (.bool true) (see_bool (by kernel_rfl) ((decide_eq_true (by omega)) : ((decide (((k : Nat) : Int) < ((ops.length : Nat) : Int)))) = true)) ?_
      refine cf_go 3 ?_
      refine cf_val 16 (.slice (some ⟨A2, off2, none⟩) az.length cap2) H1 (by kernel_rfl) ((by kernel_rfl : _ = val (aload T2 22 (.pointer (some ⟨D, 1, none⟩)) H1) H1).trans (val_of ((aload_at gD).trans (by kernel_rfl)))) ?_
      refine cf_go 2 ?_
      refine cf_see 18 (.bool true) (see_bool (by kernel_rfl) ((decide_eq_true (by omega)) : ((decide (((k : Nat) : Int) < ((az.length : Nat) : Int)))) = true)) ?_
      refine cf_go 4 ?_
      refine cf_val 23 (.slice (some ⟨A3, off3, none⟩) bs.length cap3) H1 (by kernel_rfl) ((by kernel_rfl : _ = val (aload T2 22 (.pointer (some ⟨D, 2, none⟩)) H1) H1).trans (val_of ((aload_at gD).trans (by kernel_rfl)))) ?_
      refine cf_go 2 ?_
      refine cf_see 25 (.bool true) (see_bool (by kernel_rfl) ((decide_eq_true (by omega)) : ((decide (((k : Nat) : Int) < ((bs.length : Nat) : Int)))) = true)) ?_
      refine cf_go 4 ?_
      refine cf_see 29 (.bool true) (see_bool (by kernel_rfl) ((decide_eq_true (by omega)) : ((decide (((k : Nat) : Int) < 30))) = true)) ?_
      refine cf_go 13 ?_
      refine cf_see 35 (.int .u32 ((k : Nat) : Int)) (see_int (x := IntKind.u32.wrap ((k : Nat) : Int)) (by kernel_rfl) (wu32 rfl (by omega) (by omega))) ?_
      refine cf_go 1 ?_
      obtain ⟨H5_, hH5_⟩ : ∃ x : Heap, x = H1.push ⟨[Value.int .i64 0, .int .i64 0, .int .i64 0, .int .i64 0, .int .u32 0], 50, false⟩ := ⟨_, rfl⟩
      have nH5_ : H5_.n = H1.n + 1 := by rw [hH5_]; rfl
      refine cf_val 5 (.pointer (some ⟨H1.n, 0, none⟩)) H5_ (by kernel_rfl) ((by kernel_rfl : _ = some (Res.val (.pointer (some ⟨H1.n, 0, none⟩)), H1.push ⟨[Value.int .i64 0, .int .i64 0, .int .i64 0, .int .i64 0, .int .u32 0], 50, false⟩)).trans (by rw [← hH5_])) ?_
      have gH5_H1_n : H5_.get (H1.n) = some ⟨[Value.int .i64 0, .int .i64 0, .int .i64 0, .int .i64 0, .int .u32 0], 50, false⟩ := by rw [hH5_]; exact (Heap.get_push _ _ _).trans (if_pos rfl)
      obtain ⟨H6_, hH6_⟩ : ∃ x : Heap, x = H5_.put (H1.n) ⟨[Value.int .i64 0, .int .i64 ((k : Nat) : Int), .int .i64 0, .int .i64 0, .int .u32 ((k : Nat) : Int)], 50, false⟩ := ⟨_, rfl⟩
      have nH6_ : H6_.n = H5_.n := by rw [hH6_]; rfl
      refine cf_skip H6_ (by kernel_rfl) ((by kernel_rfl : _ = skp (astore T2 50 (.pointer (some ⟨H1.n, 0, none⟩)) (.agg #[.int .i64 0, .int .i64 ((k : Nat) : Int), .int .i64 0, .int .i64 0, .int .u32 ((k : Nat) : Int)]) H5_)).trans (by rw [astore_to gH5_H1_n (by kernel_rfl), ← hH6_]; rfl)) ?_
      refine cf_go 7 ?_
      refine cf_see 38 (.bool false) (see_bool (by kernel_rfl) ((decide_eq_false (by omega)) : ((decide (((k : Nat) : Int) > 0))) = false)) ?_
      refine cf_go 16 ?_
      have gH6_PP : H6_.get (PP) = some ⟨[(.slice pc k cc), .int .i64 0, .int .i64 0, .int .i64 0, .int .i64 0, .slice none 0 0, .slice none 0 0, .int .i64 (-1), .int .u32 0, .int .i64 (-1), .int .i64 0, .int .u32 0, .int .i64 1, .int .i64 0], 29, false⟩ := by rw [hH6_, Heap.get_put, if_neg (by omega)]; rw [hH5_, Heap.get_push, if_neg (by omega)]; exact gP
      refine cf_val 76 ((.slice pc k cc)) H6_ (by kernel_rfl) ((by kernel_rfl : _ = val (aload T2 26 (.pointer (some ⟨PP, 0, none⟩)) H6_) H6_).trans (val_of ((aload_at gH6_PP).trans (by kernel_rfl)))) ?_
      have gH6_H1_n : H6_.get (H1.n) = some ⟨[Value.int .i64 0, .int .i64 ((k : Nat) : Int), .int .i64 0, .int .i64 0, .int .u32 ((k : Nat) : Int)], 50, false⟩ := by rw [hH6_]; exact (Heap.get_put _ _ _ _).trans (if_pos rfl)
      refine cf_val 77 (.agg #[.int .i64 0, .int .i64 ((k : Nat) : Int), .int .i64 0, .int .i64 0, .int .u32 ((k : Nat) : Int)]) H6_ (by kernel_rfl) ((by kernel_rfl : _ = val (aload T2 50 (.pointer (some ⟨H1.n, 0, none⟩)) H6_) H6_).trans (val_of ((aload_at gH6_H1_n).trans (by kernel_rfl)))) ?_
      obtain ⟨H7_, hH7_⟩ : ∃ x : Heap, x = H6_.push ⟨[Value.int .i64 0, .int .i64 ((k : Nat) : Int), .int .i64 0, .int .i64 0, .int .u32 ((k : Nat) : Int)], 50, false⟩ := ⟨_, rfl⟩
      have nH7_ : H7_.n = H6_.n + 1 := by rw [hH7_]; rfl
      refine cf_val 78 (.slice (some ⟨H6_.n, 0, none⟩) 1 1) H7_ (by kernel_rfl) ((by kernel_rfl : _ = some (Res.val (.slice (some ⟨H6_.n, 0, none⟩) 1 1), H6_.push ⟨[Value.int .i64 0, .int .i64 ((k : Nat) : Int), .int .i64 0, .int .i64 0, .int .u32 ((k : Nat) : Int)], 50, false⟩)).trans (by rw [← hH7_])) ?_
      have gH7_H6__n : H7_.get (H6_.n) = some ⟨[Value.int .i64 0, .int .i64 ((k : Nat) : Int), .int .i64 0, .int .i64 0, .int .u32 ((k : Nat) : Int)], 50, false⟩ := by rw [hH7_]; exact (Heap.get_push _ _ _).trans (if_pos rfl)
      have gk7_ := hgr.keep (H' := H7_) (lo' := H.n) (by omega) (fun b hb1 hb2 => by rw [hH7_, Heap.get_push, if_neg (by omega), hH6_, Heap.get_put, if_neg (by omega), hH5_, Heap.get_push, if_neg (by omega)])
      have gH7_D : H7_.get (D) = some ⟨[Value.slice (some ⟨A1, off1, none⟩) ops.length cap1, .slice (some ⟨A2, off2, none⟩) az.length cap2, .slice (some ⟨A3, off3, none⟩) bs.length cap3, (.slice pt4 outs.length cap4), .int .i64 fl, .bool wr], 24, false⟩ := by rw [hH7_, Heap.get_push, if_neg (by omega)]; rw [hH6_, Heap.get_put, if_neg (by omega)]; rw [hH5_, Heap.get_push, if_neg (by omega)]; exact gD
      have gH7_T2_ : H7_.get (T2_) = some ⟨[Value.slice none 0 0, .int .i64 0, .int .i64 0, .int .i64 0, .int .i64 0, .slice none 0 0, .slice none 0 0, .int .i64 0, .int .u32 0, .int .i64 0, .int .i64 0, .int .u32 0, .int .i64 0, .int .i64 0], 29, false⟩ := by rw [hH7_, Heap.get_push, if_neg (by omega)]; rw [hH6_, Heap.get_put, if_neg (by omega)]; rw [hH5_, Heap.get_push, if_neg (by omega)]; exact gT
      have gH7_PP : H7_.get (PP) = some ⟨[(.slice pc k cc), .int .i64 0, .int .i64 0, .int .i64 0, .int .i64 0, .slice none 0 0, .slice none 0 0, .int .i64 (-1), .int .u32 0, .int .i64 (-1), .int .i64 0, .int .u32 0, .int .i64 1, .int .i64 0], 29, false⟩ := by rw [hH7_, Heap.get_push, if_neg (by omega)]; exact gH6_PP
      obtain ⟨ovH8_, H8_, hapH8_, hgrH8_, uH8_, frH8_, nH8_, hvH8_⟩ := aappend_gr (T := T2) (st := 26) (xt := 26) (e := 50) (xd := .slice 50) (s0 := 4) (by_ := 39) (z := .agg #[.int .i64 0, .int .i64 0, .int .i64 0, .int .i64 0, .int .u32 0]) (by kernel_rfl) (by kernel_rfl) rfl (by kernel_rfl) (by kernel_rfl) (by kernel_rfl) (lo := H.n) gk7_ (x := .slice (some ⟨H6_.n, 0, none⟩) 1 1) (asrc_blk (l := [Value.int .i64 0, .int .i64 ((k : Nat) : Int), .int .i64 0, .int .i64 0, .int .u32 ((k : Nat) : Int)]) gH7_H6__n rfl rfl) rfl rfl (by omega) (Gr.ne hgr (by omega)) (by omega) (by omega)
      subst hvH8_
      have gH8_Dc : H8_.get (D) = some ⟨[Value.slice (some ⟨A1, off1, none⟩) ops.length cap1, .slice (some ⟨A2, off2, none⟩) az.length cap2, .slice (some ⟨A3, off3, none⟩) bs.length cap3, (.slice pt4 outs.length cap4), .int .i64 fl, .bool wr], 24, false⟩ := by rw [frH8_ _ (by omega) (Gr.neT gk7_ gH7_D (by decide))]; exact gH7_D
      have gH8_T2_c : H8_.get (T2_) = some ⟨[Value.slice none 0 0, .int .i64 0, .int .i64 0, .int .i64 0, .int .i64 0, .slice none 0 0, .slice none 0 0, .int .i64 0, .int .u32 0, .int .i64 0, .int .i64 0, .int .u32 0, .int .i64 0, .int .i64 0], 29, false⟩ := by rw [frH8_ _ (by omega) (Gr.neT gk7_ gH7_T2_ (by decide))]; exact gH7_T2_
      have gH8_PPc : H8_.get (PP) = some ⟨[(.slice pc k cc), .int .i64 0, .int .i64 0, .int .i64 0, .int .i64 0, .slice none 0 0, .slice none 0 0, .int .i64 (-1), .int .u32 0, .int .i64 (-1), .int .i64 0, .int .u32 0, .int .i64 1, .int .i64 0], 29, false⟩ := by rw [frH8_ _ (by omega) (Gr.neT gk7_ gH7_PP (by decide))]; exact gH7_PP
      refine cf_val 79 (.slice (some ⟨H7_.n, 0, none⟩) (k + 1) (unk + 5)) H8_ (by kernel_rfl) ((by kernel_rfl : _ = val2 (aappend T2 26 26 (.slice pc k cc) (.slice (some ⟨H6_.n, 0, none⟩) 1 1) H7_)).trans (by rw [hapH8_]; rfl)) ?_
      refine cf_go 1 ?_
      obtain ⟨H9_, hH9_⟩ : ∃ x : Heap, x = H8_.put (PP) ⟨[Value.slice (some ⟨H7_.n, 0, none⟩) (k + 1) (unk + 5), .int .i64 0, .int .i64 0, .int .i64 0, .int .i64 0, .slice none 0 0, .slice none 0 0, .int .i64 (-1), .int .u32 0, .int .i64 (-1), .int .i64 0, .int .u32 0, .int .i64 1, .int .i64 0], 29, false⟩ := ⟨_, rfl⟩
      have nH9_ : H9_.n = H8_.n := by rw [hH9_]; rfl
      refine cf_skip H9_ (by kernel_rfl) ((by kernel_rfl : _ = skp (astore T2 26 (.pointer (some ⟨PP, 0, none⟩)) (.slice (some ⟨H7_.n, 0, none⟩) (k + 1) (unk + 5)) H8_)).trans (by rw [astore_to gH8_PPc (by kernel_rfl), ← hH9_]; rfl)) ?_
      refine cf_go 6 ?_
      refine cf_see 32 (.int .i64 ((k + 1 : Nat) : Int)) (see_int (x := (IntKind.i64.wrap (((k : Nat) : Int) + 1))) (by kernel_rfl) (w64 (by omega) (by omega) (by omega))) ?_
      refine cf_go 2 ?_
      have gH9_D : H9_.get (D) = some ⟨[Value.slice (some ⟨A1, off1, none⟩) ops.length cap1, .slice (some ⟨A2, off2, none⟩) az.length cap2, .slice (some ⟨A3, off3, none⟩) bs.length cap3, (.slice pt4 outs.length cap4), .int .i64 fl, .bool wr], 24, false⟩ := by rw [hH9_, Heap.get_put, if_neg (by omega)]; exact gH8_Dc
      have gH9_T2_ : H9_.get (T2_) = some ⟨[Value.slice none 0 0, .int .i64 0, .int .i64 0, .int .i64 0, .int .i64 0, .slice none 0 0, .slice none 0 0, .int .i64 0, .int .u32 0, .int .i64 0, .int .i64 0, .int .u32 0, .int .i64 0, .int .i64 0], 29, false⟩ := by rw [hH9_, Heap.get_put, if_neg (by omega)]; exact gH8_T2_c
      have gH9_PP : H9_.get (PP) = some ⟨[Value.slice (some ⟨H7_.n, 0, none⟩) (k + 1) (unk + 5), .int .i64 0, .int .i64 0, .int .i64 0, .int .i64 0, .slice none 0 0, .slice none 0 0, .int .i64 (-1), .int .u32 0, .int .i64 (-1), .int .i64 0, .int .u32 0, .int .i64 1, .int .i64 0], 29, false⟩ := by rw [hH9_]; exact (Heap.get_put _ _ _ _).trans (if_pos rfl)
      have hmk : mkI ops az bs k = (0, (k : Int), 0, 0, (k : Int)) := by unfold mkI; rw [eo, ea, eb]; rw [if_neg (by omega)]
      have hgr9 : Gr H9_ H.n 50 5 (.slice (some ⟨H7_.n, 0, none⟩) (k + 1) (unk + 5)) (k + 1) (iis (mkC ops az bs (k + 1))) := by rw [mkC_succ, hmk, iis_snoc]; exact (Gr.keepX hgrH8_ gH8_PPc gH8_T2_c (by decide) (by omega) (fun b hb1 hb2 hb3 hb4 => by rw [hH9_, Heap.get_put, if_neg (by omega)]))
      refine cf_inv Rr1 (by kernel_rfl) (hRr1 _ ⟨N - (k + 1), by omega, k + 1, _, H9_, rfl, by omega, gH9_D, gH9_T2_, gH9_PP, hgr9, by omega, by omega, by omega, (show Up H.n H H9_ from ⟨by omega, fun b hb => by rw [hH9_, Heap.get_put, if_neg (by omega), uH8_.get _ (by omega), hH7_, Heap.get_push, if_neg (by omega), hH6_, Heap.get_put, if_neg (by omega), hH5_, Heap.get_push, if_neg (by omega), uH1.get _ (by omega)]⟩), ⟨(by kernel_rfl), (by kernel_rfl), (by kernel_rfl), (by kernel_rfl), True.intro⟩, (by kernel_rfl)⟩)
    · skip
      by_cases ht : 0 < Int.tmod o 3
      · skip
        rcases (by omega : o % 2 = 0 ∨ o % 2 = 1) with hp | hp
        · skip
          refine cf_go 5 ?_
          refine cf_val 10 (.slice (some ⟨A1, off1, none⟩) ops.length cap1) H1 (by kernel_rfl) ((by kernel_rfl : _ = val (aload T2 22 (.pointer (some ⟨D, 0, none⟩)) H1) H1).trans (val_of ((aload_at gD).trans (by kernel_rfl)))) ?_
          refine cf_go 2 ?_
          refine cf_see 12 (.bool true) (see_bool (by kernel_rfl) ((decide_eq_true (by omega)) : ((decide (((k : Nat) : Int) < ((ops.length : Nat) : Int)))) = true)) ?_
          refine cf_go 3 ?_
          refine cf_val 16 (.slice (some ⟨A2, off2, none⟩) az.length cap2) H1 (by kernel_rfl) ((by kernel_rfl : _ = val (aload T2 22 (.pointer (some ⟨D, 1, none⟩)) H1) H1).trans (val_of ((aload_at gD).trans (by kernel_rfl)))) ?_
          refine cf_go 2 ?_
          refine cf_see 18 (.bool true) (see_bool (by kernel_rfl) ((decide_eq_true (by omega)) : ((decide (((k : Nat) : Int) < ((az.length : Nat) : Int)))) = true)) ?_
          refine cf_go 4 ?_
          refine cf_val 23 (.slice (some ⟨A3, off3, none⟩) bs.length cap3) H1 (by kernel_rfl) ((by kernel_rfl : _ = val (aload T2 22 (.pointer (some ⟨D, 2, none⟩)) H1) H1).trans (val_of ((aload_at gD).trans (by kernel_rfl)))) ?_
          refine cf_go 2 ?_
          refine cf_see 25 (.bool true) (see_bool (by kernel_rfl) ((decide_eq_true (by omega)) : ((decide (((k : Nat) : Int) < ((bs.length : Nat) : Int)))) = true)) ?_
          refine cf_go 4 ?_
          refine cf_see 29 (.bool true) (see_bool (by kernel_rfl) ((decide_eq_true (by omega)) : ((decide (((k : Nat) : Int) < 30))) = true)) ?_
          refine cf_go 13 ?_
          refine cf_see 35 (.int .u32 ((k : Nat) : Int)) (see_int (x := IntKind.u32.wrap ((k : Nat) : Int)) (by kernel_rfl) (wu32 rfl (by omega) (by omega))) ?_
          refine cf_go 1 ?_
          obtain ⟨H10_, hH10_⟩ : ∃ x : Heap, x = H1.push ⟨[Value.int .i64 0, .int .i64 0, .int .i64 0, .int .i64 0, .int .u32 0], 50, false⟩ := ⟨_, rfl⟩
          have nH10_ : H10_.n = H1.n + 1 := by rw [hH10_]; rfl
          refine cf_val 5 (.pointer (some ⟨H1.n, 0, none⟩)) H10_ (by kernel_rfl) ((by kernel_rfl : _ = some (Res.val (.pointer (some ⟨H1.n, 0, none⟩)), H1.push ⟨[Value.int .i64 0, .int .i64 0, .int .i64 0, .int .i64 0, .int .u32 0], 50, false⟩)).trans (by rw [← hH10_])) ?_
          have gH10_H1_n : H10_.get (H1.n) = some ⟨[Value.int .i64 0, .int .i64 0, .int .i64 0, .int .i64 0, .int .u32 0], 50, false⟩ := by rw [hH10_]; exact (Heap.get_push _ _ _).trans (if_pos rfl)
          obtain ⟨H11_, hH11_⟩ : ∃ x : Heap, x = H10_.put (H1.n) ⟨[Value.int .i64 0, .int .i64 ((k : Nat) : Int), .int .i64 0, .int .i64 0, .int .u32 ((k : Nat) : Int)], 50, false⟩ := ⟨_, rfl⟩
          have nH11_ : H11_.n = H10_.n := by rw [hH11_]; rfl
          refine cf_skip H11_ (by kernel_rfl) ((by kernel_rfl : _ = skp (astore T2 50 (.pointer (some ⟨H1.n, 0, none⟩)) (.agg #[.int .i64 0, .int .i64 ((k : Nat) : Int), .int .i64 0, .int .i64 0, .int .u32 ((k : Nat) : Int)]) H10_)).trans (by rw [astore_to gH10_H1_n (by kernel_rfl), ← hH11_]; rfl)) ?_
          refine cf_go 7 ?_
          refine cf_see 38 (.bool true) (see_bool (by kernel_rfl) ((decide_eq_true (by omega)) : ((decide (((k : Nat) : Int) > 0))) = true)) ?_
          refine cf_go 2 ?_
          have gH11_D : H11_.get (D) = some ⟨[Value.slice (some ⟨A1, off1, none⟩) ops.length cap1, .slice (some ⟨A2, off2, none⟩) az.length cap2, .slice (some ⟨A3, off3, none⟩) bs.length cap3, (.slice pt4 outs.length cap4), .int .i64 fl, .bool wr], 24, false⟩ := by rw [hH11_, Heap.get_put, if_neg (by omega)]; rw [hH10_, Heap.get_push, if_neg (by omega)]; exact gD
          refine cf_val 41 (.slice (some ⟨A1, off1, none⟩) ops.length cap1) H11_ (by kernel_rfl) ((by kernel_rfl : _ = val (aload T2 22 (.pointer (some ⟨D, 0, none⟩)) H11_) H11_).trans (val_of ((aload_at gH11_D).trans (by kernel_rfl)))) ?_
          refine cf_go 1 ?_
          refine cf_val 43 (.pointer (some ⟨A1, off1 + k * 1, none⟩)) H11_ (by kernel_rfl) ((by kernel_rfl : _ = val (bif (k : Nat).blt ops.length then some (.pointer (some ⟨A1, off1 + k * 1, none⟩)) else none) H11_).trans (by rw [show (k : Nat).blt ops.length = true from (by rw [blt_dec]; simp only [decide_eq_true_eq]; omega)]; rfl)) ?_
          have gH11_A1 : H11_.get (A1) = some ⟨cells1, e1, ro1⟩ := by rw [hH11_, Heap.get_put, if_neg (by omega)]; rw [hH10_, Heap.get_push, if_neg (by omega)]; rw [uH1.get _ (by omega)]; exact gA1
          refine cf_val 44 (.int .i64 o) H11_ (by kernel_rfl) ((by kernel_rfl : _ = val (aload T2 3 (.pointer (some ⟨A1, off1 + k * 1, none⟩)) H11_) H11_).trans (val_of ((aload_at gH11_A1).trans (aloadC_cellB (n := 1) (by kernel_rfl) (by kernel_rfl) co)))) ?_
          refine cf_go 2 ?_
          refine cf_see 46 (.bool true) (see_bool (by kernel_rfl) ((decide_eq_true ht) : ((decide (((Int.tmod o 3) : Int) > 0))) = true)) ?_
          refine cf_go 4 ?_
          refine cf_drawV ((H11_.n + 1)) (by kernel_rfl) ?_
          obtain ⟨H12_, hH12_⟩ : ∃ x : Heap, x = H11_.push ⟨[Value.int .i64 3, .int .i64 4], 3, false⟩ := ⟨_, rfl⟩
          have nH12_ : H12_.n = H11_.n + 1 := by rw [hH12_]; rfl
          refine aopsV_val 48 (.slice (some ⟨H11_.n, 0, none⟩) 2 2) H11_ H12_ (by kernel_rfl) ((by kernel_rfl : _ = some (Res.val (.slice (some ⟨H11_.n, 0, none⟩) 2 2), H11_.push ⟨[Value.int .i64 3, .int .i64 4], 3, false⟩)).trans (by rw [← hH12_])) (by kernel_rfl) (calm_no (by kernel_rfl)) (by kernel_rfl) ?_
          refine aopsV_go 1 (by kernel_rfl) (by kernel_rfl) ?_
          have gH12_D : H12_.get (D) = some ⟨[Value.slice (some ⟨A1, off1, none⟩) ops.length cap1, .slice (some ⟨A2, off2, none⟩) az.length cap2, .slice (some ⟨A3, off3, none⟩) bs.length cap3, (.slice pt4 outs.length cap4), .int .i64 fl, .bool wr], 24, false⟩ := by rw [hH12_, Heap.get_push, if_neg (by omega)]; exact gH11_D
          refine aopsV_val 50 (.slice (some ⟨A1, off1, none⟩) ops.length cap1) H12_ H12_ (by kernel_rfl) ((by kernel_rfl : _ = val (aload T2 22 (.pointer (some ⟨D, 0, none⟩)) H12_) H12_).trans (val_of ((aload_at gH12_D).trans (by kernel_rfl)))) (by kernel_rfl) (calm_no (by kernel_rfl)) (by kernel_rfl) ?_
          refine aopsV_go 1 (by kernel_rfl) (by kernel_rfl) ?_
          refine aopsV_val 52 (.pointer (some ⟨A1, off1 + k * 1, none⟩)) H12_ H12_ (by kernel_rfl) ((by kernel_rfl : _ = val (bif (k : Nat).blt ops.length then some (.pointer (some ⟨A1, off1 + k * 1, none⟩)) else none) H12_).trans (by rw [show (k : Nat).blt ops.length = true from (by rw [blt_dec]; simp only [decide_eq_true_eq]; omega)]; rfl)) (by kernel_rfl) (calm_no (by kernel_rfl)) (by kernel_rfl) ?_
          have gH12_A1 : H12_.get (A1) = some ⟨cells1, e1, ro1⟩ := by rw [hH12_, Heap.get_push, if_neg (by omega)]; exact gH11_A1
          refine aopsV_val 53 (.int .i64 o) H12_ H12_ (by kernel_rfl) ((by kernel_rfl : _ = val (aload T2 3 (.pointer (some ⟨A1, off1 + k * 1, none⟩)) H12_) H12_).trans (val_of ((aload_at gH12_A1).trans (aloadC_cellB (n := 1) (by kernel_rfl) (by kernel_rfl) co)))) (by kernel_rfl) (calm_no (by kernel_rfl)) (by kernel_rfl) ?_
          refine aopsV_ask 54 (.int .i64 (0 + o % (1 - 0 + 1))) 12 #[.int .i64 o, .int .i64 0, .int .i64 1] (by kernel_rfl) (by kernel_rfl) (orc12 o 0 1 (by simp only [inB, Bool.and_eq_true, decide_eq_true_eq]; omega)) ?_
          refine aopsV_see 54 (.int .i64 0) (see_int (x := (0 + o % (1 - 0 + 1))) (by kernel_rfl) (by omega)) ?_
          refine aopsV_go 1 (by kernel_rfl) (by kernel_rfl) ?_
          have gH12_H11__n : H12_.get (H11_.n) = some ⟨[Value.int .i64 3, .int .i64 4], 3, false⟩ := by rw [hH12_]; exact (Heap.get_push _ _ _).trans (if_pos rfl)
          refine aopsV_get 56 (.int .i64 3) (.pointer (some ⟨H11_.n, 0, none⟩)) (.tmp 55) H12_ (by kernel_rfl) (by kernel_rfl) (by kernel_rfl) (by kernel_rfl) ((by kernel_rfl : _ = aload T2 3 (.pointer (some ⟨H11_.n, 0, none⟩)) H12_).trans ((aload_at gH12_H11__n).trans (by kernel_rfl))) (veq_int _ _) (lowB_ptr (by omega)) ((by kernel_rfl : _ = val (aload T2 3 (.pointer (some ⟨H11_.n, 0, none⟩)) H12_) H12_).trans (val_to ((aload_at gH12_H11__n).trans (by kernel_rfl)) (by kernel_rfl))) ?_
          refine aopsV_go 2 (by kernel_rfl) (by kernel_rfl) ?_
          refine aopsV_get 59 (.slice (some ⟨A2, off2, none⟩) az.length cap2) (.pointer (some ⟨D, 1, none⟩)) (.tmp 58) H12_ (by kernel_rfl) (by kernel_rfl) (by kernel_rfl) (by kernel_rfl) ((by kernel_rfl : _ = aload T2 22 (.pointer (some ⟨D, 1, none⟩)) H12_).trans ((aload_at gH12_D).trans (by kernel_rfl))) (veq_slice _ _ _) (lowB_ptr (by omega)) ((by kernel_rfl : _ = val (aload T2 22 (.pointer (some ⟨D, 1, none⟩)) H12_) H12_).trans (val_to ((aload_at gH12_D).trans (by kernel_rfl)) (by kernel_rfl))) ?_
          refine aopsV_go 1 (by kernel_rfl) (by kernel_rfl) ?_
          refine aopsV_val 61 (.pointer (some ⟨A2, off2 + k * 1, none⟩)) H12_ H12_ (by kernel_rfl) ((by kernel_rfl : _ = val (bif (k : Nat).blt az.length then some (.pointer (some ⟨A2, off2 + k * 1, none⟩)) else none) H12_).trans (by rw [show (k : Nat).blt az.length = true from (by rw [blt_dec]; simp only [decide_eq_true_eq]; omega)]; rfl)) (by kernel_rfl) (fun _ => Up.refl _) (by kernel_rfl) ?_
          have gH12_A2 : H12_.get (A2) = some ⟨cells2, e2, ro2⟩ := by rw [hH12_, Heap.get_push, if_neg (by omega)]; rw [hH11_, Heap.get_put, if_neg (by omega)]; rw [hH10_, Heap.get_push, if_neg (by omega)]; rw [uH1.get _ (by omega)]; exact gA2
          refine aopsV_get 62 (.int .i64 a) (.pointer (some ⟨A2, off2 + k * 1, none⟩)) (.tmp 61) H12_ (by kernel_rfl) (by kernel_rfl) (by kernel_rfl) (by kernel_rfl) ((by kernel_rfl : _ = aload T2 3 (.pointer (some ⟨A2, off2 + k * 1, none⟩)) H12_).trans ((aload_at gH12_A2).trans (aloadC_cellB (n := 1) (by kernel_rfl) (by kernel_rfl) ca))) (veq_int _ _) (lowB_ptr (by omega)) ((by kernel_rfl : _ = val (aload T2 3 (.pointer (some ⟨A2, off2 + k * 1, none⟩)) H12_) H12_).trans (val_to ((aload_at gH12_A2).trans (aloadC_cellB (n := 1) (by kernel_rfl) (by kernel_rfl) ca)) (by kernel_rfl))) ?_
          refine aopsV_go 2 (by kernel_rfl) (by kernel_rfl) ?_
          refine aopsV_see 64 (.int .i64 (((k : Nat) : Int) - 1)) (see_int (x := (IntKind.i64.wrap (((k : Nat) : Int) - 1))) (by kernel_rfl) (w64 (by omega) (by omega) (by omega))) ?_
          refine aopsV_ask 65 (.int .i64 (0 + a % ((((k : Nat) : Int) - 1) - 0 + 1))) 12 #[.int .i64 a, .int .i64 0, .int .i64 (((k : Nat) : Int) - 1)] (by kernel_rfl) (by kernel_rfl) (orc12 a 0 (((k : Nat) : Int) - 1) (by simp only [inB, Bool.and_eq_true, decide_eq_true_eq]; omega)) ?_
          refine aopsV_see 65 (.int .i64 (a % ((k : Nat) : Int))) (see_int (x := (0 + a % ((((k : Nat) : Int) - 1) - 0 + 1))) (by kernel_rfl) (by rw [show ((((k : Nat) : Int) - 1) - 0 + 1 : Int) = ((k : Nat) : Int) by omega]; omega)) ?_
          refine aopsV_go 1 (by kernel_rfl) (by kernel_rfl) ?_
          refine aopsV_get 67 (.slice (some ⟨A3, off3, none⟩) bs.length cap3) (.pointer (some ⟨D, 2, none⟩)) (.tmp 66) H12_ (by kernel_rfl) (by kernel_rfl) (by kernel_rfl) (by kernel_rfl) ((by kernel_rfl : _ = aload T2 22 (.pointer (some ⟨D, 2, none⟩)) H12_).trans ((aload_at gH12_D).trans (by kernel_rfl))) (veq_slice _ _ _) (lowB_ptr (by omega)) ((by kernel_rfl : _ = val (aload T2 22 (.pointer (some ⟨D, 2, none⟩)) H12_) H12_).trans (val_to ((aload_at gH12_D).trans (by kernel_rfl)) (by kernel_rfl))) ?_
          refine aopsV_go 1 (by kernel_rfl) (by kernel_rfl) ?_
          refine aopsV_val 69 (.pointer (some ⟨A3, off3 + k * 1, none⟩)) H12_ H12_ (by kernel_rfl) ((by kernel_rfl : _ = val (bif (k : Nat).blt bs.length then some (.pointer (some ⟨A3, off3 + k * 1, none⟩)) else none) H12_).trans (by rw [show (k : Nat).blt bs.length = true from (by rw [blt_dec]; simp only [decide_eq_true_eq]; omega)]; rfl)) (by kernel_rfl) (fun _ => Up.refl _) (by kernel_rfl) ?_
          have gH12_A3 : H12_.get (A3) = some ⟨cells3, e3, ro3⟩ := by rw [hH12_, Heap.get_push, if_neg (by omega)]; rw [hH11_, Heap.get_put, if_neg (by omega)]; rw [hH10_, Heap.get_push, if_neg (by omega)]; rw [uH1.get _ (by omega)]; exact gA3
          refine aopsV_get 70 (.int .i64 b) (.pointer (some ⟨A3, off3 + k * 1, none⟩)) (.tmp 69) H12_ (by kernel_rfl) (by kernel_rfl) (by kernel_rfl) (by kernel_rfl) ((by kernel_rfl : _ = aload T2 3 (.pointer (some ⟨A3, off3 + k * 1, none⟩)) H12_).trans ((aload_at gH12_A3).trans (aloadC_cellB (n := 1) (by kernel_rfl) (by kernel_rfl) cb))) (veq_int _ _) (lowB_ptr (by omega)) ((by kernel_rfl : _ = val (aload T2 3 (.pointer (some ⟨A3, off3 + k * 1, none⟩)) H12_) H12_).trans (val_to ((aload_at gH12_A3).trans (aloadC_cellB (n := 1) (by kernel_rfl) (by kernel_rfl) cb)) (by kernel_rfl))) ?_
          refine aopsV_go 2 (by kernel_rfl) (by kernel_rfl) ?_
          refine aopsV_see 72 (.int .i64 (((k : Nat) : Int) - 1)) (see_int (x := (IntKind.i64.wrap (((k : Nat) : Int) - 1))) (by kernel_rfl) (w64 (by omega) (by omega) (by omega))) ?_
          refine aopsV_ask 73 (.int .i64 (0 + b % ((((k : Nat) : Int) - 1) - 0 + 1))) 12 #[.int .i64 b, .int .i64 0, .int .i64 (((k : Nat) : Int) - 1)] (by kernel_rfl) (by kernel_rfl) (orc12 b 0 (((k : Nat) : Int) - 1) (by simp only [inB, Bool.and_eq_true, decide_eq_true_eq]; omega)) ?_
          refine aopsV_see 73 (.int .i64 (b % ((k : Nat) : Int))) (see_int (x := (0 + b % ((((k : Nat) : Int) - 1) - 0 + 1))) (by kernel_rfl) (by rw [show ((((k : Nat) : Int) - 1) - 0 + 1 : Int) = ((k : Nat) : Int) by omega]; omega)) ?_
          refine aopsV_go 1 (by kernel_rfl) (by kernel_rfl) ?_
          have gH12_H1_n : H12_.get (H1.n) = some ⟨[Value.int .i64 0, .int .i64 ((k : Nat) : Int), .int .i64 0, .int .i64 0, .int .u32 ((k : Nat) : Int)], 50, false⟩ := by rw [hH12_, Heap.get_push, if_neg (by omega)]; rw [hH11_]; exact (Heap.get_put _ _ _ _).trans (if_pos rfl)
          obtain ⟨H13_, hH13_⟩ : ∃ x : Heap, x = H12_.put (H1.n) ⟨[Value.int .i64 3, .int .i64 ((k : Nat) : Int), .int .i64 (a % ((k : Nat) : Int)), .int .i64 (b % ((k : Nat) : Int)), .int .u32 20], 50, false⟩ := ⟨_, rfl⟩
          have nH13_ : H13_.n = H12_.n := by rw [hH13_]; rfl
          refine aopsV_skip H12_ H13_ (by kernel_rfl) (by kernel_rfl) (by kernel_rfl) ((by kernel_rfl : _ = skp (astore T2 50 (.pointer (some ⟨H1.n, 0, none⟩)) (.agg #[.int .i64 3, .int .i64 ((k : Nat) : Int), .int .i64 (a % ((k : Nat) : Int)), .int .i64 (b % ((k : Nat) : Int)), .int .u32 20]) H12_)).trans (by rw [astore_to gH12_H1_n (by kernel_rfl), ← hH13_]; rfl)) (by kernel_rfl) (calm_no (by kernel_rfl)) ?_
          refine aopsV_end (by kernel_rfl) ?_
          refine cf_go 3 ?_
          have gH13_PP : H13_.get (PP) = some ⟨[(.slice pc k cc), .int .i64 0, .int .i64 0, .int .i64 0, .int .i64 0, .slice none 0 0, .slice none 0 0, .int .i64 (-1), .int .u32 0, .int .i64 (-1), .int .i64 0, .int .u32 0, .int .i64 1, .int .i64 0], 29, false⟩ := by rw [hH13_, Heap.get_put, if_neg (by omega)]; rw [hH12_, Heap.get_push, if_neg (by omega)]; rw [hH11_, Heap.get_put, if_neg (by omega)]; rw [hH10_, Heap.get_push, if_neg (by omega)]; exact gP
          refine cf_val 76 ((.slice pc k cc)) H13_ (by kernel_rfl) ((by kernel_rfl : _ = val (aload T2 26 (.pointer (some ⟨PP, 0, none⟩)) H13_) H13_).trans (val_of ((aload_at gH13_PP).trans (by kernel_rfl)))) ?_
          have gH13_H1_n : H13_.get (H1.n) = some ⟨[Value.int .i64 3, .int .i64 ((k : Nat) : Int), .int .i64 (a % ((k : Nat) : Int)), .int .i64 (b % ((k : Nat) : Int)), .int .u32 20], 50, false⟩ := by rw [hH13_]; exact (Heap.get_put _ _ _ _).trans (if_pos rfl)
          refine cf_val 77 (.agg #[.int .i64 3, .int .i64 ((k : Nat) : Int), .int .i64 (a % ((k : Nat) : Int)), .int .i64 (b % ((k : Nat) : Int)), .int .u32 20]) H13_ (by kernel_rfl) ((by kernel_rfl : _ = val (aload T2 50 (.pointer (some ⟨H1.n, 0, none⟩)) H13_) H13_).trans (val_of ((aload_at gH13_H1_n).trans (by kernel_rfl)))) ?_
          obtain ⟨H14_, hH14_⟩ : ∃ x : Heap, x = H13_.push ⟨[Value.int .i64 3, .int .i64 ((k : Nat) : Int), .int .i64 (a % ((k : Nat) : Int)), .int .i64 (b % ((k : Nat) : Int)), .int .u32 20], 50, false⟩ := ⟨_, rfl⟩
          have nH14_ : H14_.n = H13_.n + 1 := by rw [hH14_]; rfl
          refine cf_val 78 (.slice (some ⟨H13_.n, 0, none⟩) 1 1) H14_ (by kernel_rfl) ((by kernel_rfl : _ = some (Res.val (.slice (some ⟨H13_.n, 0, none⟩) 1 1), H13_.push ⟨[Value.int .i64 3, .int .i64 ((k : Nat) : Int), .int .i64 (a % ((k : Nat) : Int)), .int .i64 (b % ((k : Nat) : Int)), .int .u32 20], 50, false⟩)).trans (by rw [← hH14_])) ?_
          have gH14_H13__n : H14_.get (H13_.n) = some ⟨[Value.int .i64 3, .int .i64 ((k : Nat) : Int), .int .i64 (a % ((k : Nat) : Int)), .int .i64 (b % ((k : Nat) : Int)), .int .u32 20], 50, false⟩ := by rw [hH14_]; exact (Heap.get_push _ _ _).trans (if_pos rfl)
          have gk14_ := hgr.keep (H' := H14_) (lo' := H.n) (by omega) (fun b hb1 hb2 => by rw [hH14_, Heap.get_push, if_neg (by omega), hH13_, Heap.get_put, if_neg (by omega), hH12_, Heap.get_push, if_neg (by omega), hH11_, Heap.get_put, if_neg (by omega), hH10_, Heap.get_push, if_neg (by omega)])
          have gH14_D : H14_.get (D) = some ⟨[Value.slice (some ⟨A1, off1, none⟩) ops.length cap1, .slice (some ⟨A2, off2, none⟩) az.length cap2, .slice (some ⟨A3, off3, none⟩) bs.length cap3, (.slice pt4 outs.length cap4), .int .i64 fl, .bool wr], 24, false⟩ := by rw [hH14_, Heap.get_push, if_neg (by omega)]; rw [hH13_, Heap.get_put, if_neg (by omega)]; exact gH12_D
          have gH14_T2_ : H14_.get (T2_) = some ⟨[Value.slice none 0 0, .int .i64 0, .int .i64 0, .int .i64 0, .int .i64 0, .slice none 0 0, .slice none 0 0, .int .i64 0, .int .u32 0, .int .i64 0, .int .i64 0, .int .u32 0, .int .i64 0, .int .i64 0], 29, false⟩ := by rw [hH14_, Heap.get_push, if_neg (by omega)]; rw [hH13_, Heap.get_put, if_neg (by omega)]; rw [hH12_, Heap.get_push, if_neg (by omega)]; rw [hH11_, Heap.get_put, if_neg (by omega)]; rw [hH10_, Heap.get_push, if_neg (by omega)]; exact gT
          have gH14_PP : H14_.get (PP) = some ⟨[(.slice pc k cc), .int .i64 0, .int .i64 0, .int .i64 0, .int .i64 0, .slice none 0 0, .slice none 0 0, .int .i64 (-1), .int .u32 0, .int .i64 (-1), .int .i64 0, .int .u32 0, .int .i64 1, .int .i64 0], 29, false⟩ := by rw [hH14_, Heap.get_push, if_neg (by omega)]; exact gH13_PP
          have gH14_H11__n : H14_.get (H11_.n) = some ⟨[Value.int .i64 3, .int .i64 4], 3, false⟩ := by rw [hH14_, Heap.get_push, if_neg (by omega)]; rw [hH13_, Heap.get_put, if_neg (by omega)]; exact gH12_H11__n
          obtain ⟨ovH15_, H15_, hapH15_, hgrH15_, uH15_, frH15_, nH15_, hvH15_⟩ := aappend_gr (T := T2) (st := 26) (xt := 26) (e := 50) (xd := .slice 50) (s0 := 4) (by_ := 39) (z := .agg #[.int .i64 0, .int .i64 0, .int .i64 0, .int .i64 0, .int .u32 0]) (by kernel_rfl) (by kernel_rfl) rfl (by kernel_rfl) (by kernel_rfl) (by kernel_rfl) (lo := H.n) gk14_ (x := .slice (some ⟨H13_.n, 0, none⟩) 1 1) (asrc_blk (l := [Value.int .i64 3, .int .i64 ((k : Nat) : Int), .int .i64 (a % ((k : Nat) : Int)), .int .i64 (b % ((k : Nat) : Int)), .int .u32 20]) gH14_H13__n rfl rfl) rfl rfl (by omega) (Gr.ne hgr (by omega)) (by omega) (by omega)
          subst hvH15_
          have gH15_Dc : H15_.get (D) = some ⟨[Value.slice (some ⟨A1, off1, none⟩) ops.length cap1, .slice (some ⟨A2, off2, none⟩) az.length cap2, .slice (some ⟨A3, off3, none⟩) bs.length cap3, (.slice pt4 outs.length cap4), .int .i64 fl, .bool wr], 24, false⟩ := by rw [frH15_ _ (by omega) (Gr.neT gk14_ gH14_D (by decide))]; exact gH14_D
          have gH15_T2_c : H15_.get (T2_) = some ⟨[Value.slice none 0 0, .int .i64 0, .int .i64 0, .int .i64 0, .int .i64 0, .slice none 0 0, .slice none 0 0, .int .i64 0, .int .u32 0, .int .i64 0, .int .i64 0, .int .u32 0, .int .i64 0, .int .i64 0], 29, false⟩ := by rw [frH15_ _ (by omega) (Gr.neT gk14_ gH14_T2_ (by decide))]; exact gH14_T2_
          have gH15_PPc : H15_.get (PP) = some ⟨[(.slice pc k cc), .int .i64 0, .int .i64 0, .int .i64 0, .int .i64 0, .slice none 0 0, .slice none 0 0, .int .i64 (-1), .int .u32 0, .int .i64 (-1), .int .i64 0, .int .u32 0, .int .i64 1, .int .i64 0], 29, false⟩ := by rw [frH15_ _ (by omega) (Gr.neT gk14_ gH14_PP (by decide))]; exact gH14_PP
          have gH15_H11__nc : H15_.get (H11_.n) = some ⟨[Value.int .i64 3, .int .i64 4], 3, false⟩ := by rw [frH15_ _ (by omega) (Gr.neT gk14_ gH14_H11__n (by decide))]; exact gH14_H11__n
          refine cf_val 79 (.slice (some ⟨H14_.n, 0, none⟩) (k + 1) (unk + 5)) H15_ (by kernel_rfl) ((by kernel_rfl : _ = val2 (aappend T2 26 26 (.slice pc k cc) (.slice (some ⟨H13_.n, 0, none⟩) 1 1) H14_)).trans (by rw [hapH15_]; rfl)) ?_
          refine cf_go 1 ?_
          obtain ⟨H16_, hH16_⟩ : ∃ x : Heap, x = H15_.put (PP) ⟨[Value.slice (some ⟨H14_.n, 0, none⟩) (k + 1) (unk + 5), .int .i64 0, .int .i64 0, .int .i64 0, .int .i64 0, .slice none 0 0, .slice none 0 0, .int .i64 (-1), .int .u32 0, .int .i64 (-1), .int .i64 0, .int .u32 0, .int .i64 1, .int .i64 0], 29, false⟩ := ⟨_, rfl⟩
          have nH16_ : H16_.n = H15_.n := by rw [hH16_]; rfl
          refine cf_skip H16_ (by kernel_rfl) ((by kernel_rfl : _ = skp (astore T2 26 (.pointer (some ⟨PP, 0, none⟩)) (.slice (some ⟨H14_.n, 0, none⟩) (k + 1) (unk + 5)) H15_)).trans (by rw [astore_to gH15_PPc (by kernel_rfl), ← hH16_]; rfl)) ?_
          refine cf_go 6 ?_
          refine cf_see 32 (.int .i64 ((k + 1 : Nat) : Int)) (see_int (x := (IntKind.i64.wrap (((k : Nat) : Int) + 1))) (by kernel_rfl) (w64 (by omega) (by omega) (by omega))) ?_
          refine cf_go 2 ?_
          have gH16_D : H16_.get (D) = some ⟨[Value.slice (some ⟨A1, off1, none⟩) ops.length cap1, .slice (some ⟨A2, off2, none⟩) az.length cap2, .slice (some ⟨A3, off3, none⟩) bs.length cap3, (.slice pt4 outs.length cap4), .int .i64 fl, .bool wr], 24, false⟩ := by rw [hH16_, Heap.get_put, if_neg (by omega)]; exact gH15_Dc
          have gH16_T2_ : H16_.get (T2_) = some ⟨[Value.slice none 0 0, .int .i64 0, .int .i64 0, .int .i64 0, .int .i64 0, .slice none 0 0, .slice none 0 0, .int .i64 0, .int .u32 0, .int .i64 0, .int .i64 0, .int .u32 0, .int .i64 0, .int .i64 0], 29, false⟩ := by rw [hH16_, Heap.get_put, if_neg (by omega)]; exact gH15_T2_c
          have gH16_PP : H16_.get (PP) = some ⟨[Value.slice (some ⟨H14_.n, 0, none⟩) (k + 1) (unk + 5), .int .i64 0, .int .i64 0, .int .i64 0, .int .i64 0, .slice none 0 0, .slice none 0 0, .int .i64 (-1), .int .u32 0, .int .i64 (-1), .int .i64 0, .int .u32 0, .int .i64 1, .int .i64 0], 29, false⟩ := by rw [hH16_]; exact (Heap.get_put _ _ _ _).trans (if_pos rfl)
          have hmk : mkI ops az bs k = (3, (k : Int), a % (k : Int), b % (k : Int), 20) := by unfold mkI; rw [eo, ea, eb]; rw [if_pos (by omega), hp]; rfl
          have hgr9 : Gr H16_ H.n 50 5 (.slice (some ⟨H14_.n, 0, none⟩) (k + 1) (unk + 5)) (k + 1) (iis (mkC ops az bs (k + 1))) := by rw [mkC_succ, hmk, iis_snoc]; exact (Gr.keepX hgrH15_ gH15_PPc gH15_T2_c (by decide) (by omega) (fun b hb1 hb2 hb3 hb4 => by rw [hH16_, Heap.get_put, if_neg (by omega)]))
          refine cf_inv Rr1 (by kernel_rfl) (hRr1 _ ⟨N - (k + 1), by omega, k + 1, _, H16_, rfl, by omega, gH16_D, gH16_T2_, gH16_PP, hgr9, by omega, by omega, by omega, (show Up H.n H H16_ from ⟨by omega, fun b hb => by rw [hH16_, Heap.get_put, if_neg (by omega), uH15_.get _ (by omega), hH14_, Heap.get_push, if_neg (by omega), hH13_, Heap.get_put, if_neg (by omega), hH12_, Heap.get_push, if_neg (by omega), hH11_, Heap.get_put, if_neg (by omega), hH10_, Heap.get_push, if_neg (by omega), uH1.get _ (by omega)]⟩), ⟨(by kernel_rfl), (by kernel_rfl), (by kernel_rfl), (by kernel_rfl), True.intro⟩, (by kernel_rfl)⟩)
        · skip
          refine cf_go 5 ?_
          refine cf_val 10 (.slice (some ⟨A1, off1, none⟩) ops.length cap1) H1 (by kernel_rfl) ((by kernel_rfl : _ = val (aload T2 22 (.pointer (some ⟨D, 0, none⟩)) H1) H1).trans (val_of ((aload_at gD).trans (by kernel_rfl)))) ?_
          refine cf_go 2 ?_
          refine cf_see 12 (.bool true) (see_bool (by kernel_rfl) ((decide_eq_true (by omega)) : ((decide (((k : Nat) : Int) < ((ops.length : Nat) : Int)))) = true)) ?_
          refine cf_go 3 ?_
          refine cf_val 16 (.slice (some ⟨A2, off2, none⟩) az.length cap2) H1 (by kernel_rfl) ((by kernel_rfl : _ = val (aload T2 22 (.pointer (some ⟨D, 1, none⟩)) H1) H1).trans (val_of ((aload_at gD).trans (by kernel_rfl)))) ?_
          refine cf_go 2 ?_
          refine cf_see 18 (.bool true) (see_bool (by kernel_rfl) ((decide_eq_true (by omega)) : ((decide (((k : Nat) : Int) < ((az.length : Nat) : Int)))) = true)) ?_
          refine cf_go 4 ?_
          refine cf_val 23 (.slice (some ⟨A3, off3, none⟩) bs.length cap3) H1 (by kernel_rfl) ((by kernel_rfl : _ = val (aload T2 22 (.pointer (some ⟨D, 2, none⟩)) H1) H1).trans (val_of ((aload_at gD).trans (by kernel_rfl)))) ?_
          refine cf_go 2 ?_
          refine cf_see 25 (.bool true) (see_bool (by kernel_rfl) ((decide_eq_true (by omega)) : ((decide (((k : Nat) : Int) < ((bs.length : Nat) : Int)))) = true)) ?_
          refine cf_go 4 ?_
          refine cf_see 29 (.bool true) (see_bool (by kernel_rfl) ((decide_eq_true (by omega)) : ((decide (((k : Nat) : Int) < 30))) = true)) ?_
          refine cf_go 13 ?_
          refine cf_see 35 (.int .u32 ((k : Nat) : Int)) (see_int (x := IntKind.u32.wrap ((k : Nat) : Int)) (by kernel_rfl) (wu32 rfl (by omega) (by omega))) ?_
          refine cf_go 1 ?_
          obtain ⟨H17_, hH17_⟩ : ∃ x : Heap, x = H1.push ⟨[Value.int .i64 0, .int .i64 0, .int .i64 0, .int .i64 0, .int .u32 0], 50, false⟩ := ⟨_, rfl⟩
          have nH17_ : H17_.n = H1.n + 1 := by rw [hH17_]; rfl
          refine cf_val 5 (.pointer (some ⟨H1.n, 0, none⟩)) H17_ (by kernel_rfl) ((by kernel_rfl : _ = some (Res.val (.pointer (some ⟨H1.n, 0, none⟩)), H1.push ⟨[Value.int .i64 0, .int .i64 0, .int .i64 0, .int .i64 0, .int .u32 0], 50, false⟩)).trans (by rw [← hH17_])) ?_
          have gH17_H1_n : H17_.get (H1.n) = some ⟨[Value.int .i64 0, .int .i64 0, .int .i64 0, .int .i64 0, .int .u32 0], 50, false⟩ := by rw [hH17_]; exact (Heap.get_push _ _ _).trans (if_pos rfl)
          obtain ⟨H18_, hH18_⟩ : ∃ x : Heap, x = H17_.put (H1.n) ⟨[Value.int .i64 0, .int .i64 ((k : Nat) : Int), .int .i64 0, .int .i64 0, .int .u32 ((k : Nat) : Int)], 50, false⟩ := ⟨_, rfl⟩
          have nH18_ : H18_.n = H17_.n := by rw [hH18_]; rfl
          refine cf_skip H18_ (by kernel_rfl) ((by kernel_rfl : _ = skp (astore T2 50 (.pointer (some ⟨H1.n, 0, none⟩)) (.agg #[.int .i64 0, .int .i64 ((k : Nat) : Int), .int .i64 0, .int .i64 0, .int .u32 ((k : Nat) : Int)]) H17_)).trans (by rw [astore_to gH17_H1_n (by kernel_rfl), ← hH18_]; rfl)) ?_
          refine cf_go 7 ?_
          refine cf_see 38 (.bool true) (see_bool (by kernel_rfl) ((decide_eq_true (by omega)) : ((decide (((k : Nat) : Int) > 0))) = true)) ?_
          refine cf_go 2 ?_
          have gH18_D : H18_.get (D) = some ⟨[Value.slice (some ⟨A1, off1, none⟩) ops.length cap1, .slice (some ⟨A2, off2, none⟩) az.length cap2, .slice (some ⟨A3, off3, none⟩) bs.length cap3, (.slice pt4 outs.length cap4), .int .i64 fl, .bool wr], 24, false⟩ := by rw [hH18_, Heap.get_put, if_neg (by omega)]; rw [hH17_, Heap.get_push, if_neg (by omega)]; exact gD
          refine cf_val 41 (.slice (some ⟨A1, off1, none⟩) ops.length cap1) H18_ (by kernel_rfl) ((by kernel_rfl : _ = val (aload T2 22 (.pointer (some ⟨D, 0, none⟩)) H18_) H18_).trans (val_of ((aload_at gH18_D).trans (by kernel_rfl)))) ?_
          refine cf_go 1 ?_
          refine cf_val 43 (.pointer (some ⟨A1, off1 + k * 1, none⟩)) H18_ (by kernel_rfl) ((by kernel_rfl : _ = val (bif (k : Nat).blt ops.length then some (.pointer (some ⟨A1, off1 + k * 1, none⟩)) else none) H18_).trans (by rw [show (k : Nat).blt ops.length = true from (by rw [blt_dec]; simp only [decide_eq_true_eq]; omega)]; rfl)) ?_
          have gH18_A1 : H18_.get (A1) = some ⟨cells1, e1, ro1⟩ := by rw [hH18_, Heap.get_put, if_neg (by omega)]; rw [hH17_, Heap.get_push, if_neg (by omega)]; rw [uH1.get _ (by omega)]; exact gA1
          refine cf_val 44 (.int .i64 o) H18_ (by kernel_rfl) ((by kernel_rfl : _ = val (aload T2 3 (.pointer (some ⟨A1, off1 + k * 1, none⟩)) H18_) H18_).trans (val_of ((aload_at gH18_A1).trans (aloadC_cellB (n := 1) (by kernel_rfl) (by kernel_rfl) co)))) ?_
          refine cf_go 2 ?_
          refine cf_see 46 (.bool true) (see_bool (by kernel_rfl) ((decide_eq_true ht) : ((decide (((Int.tmod o 3) : Int) > 0))) = true)) ?_
          refine cf_go 4 ?_
          refine cf_drawV ((H18_.n + 1)) (by kernel_rfl) ?_
          obtain ⟨H19_, hH19_⟩ : ∃ x : Heap, x = H18_.push ⟨[Value.int .i64 3, .int .i64 4], 3, false⟩ := ⟨_, rfl⟩
          have nH19_ : H19_.n = H18_.n + 1 := by rw [hH19_]; rfl
          refine aopsV_val 48 (.slice (some ⟨H18_.n, 0, none⟩) 2 2) H18_ H19_ (by kernel_rfl) ((by kernel_rfl : _ = some (Res.val (.slice (some ⟨H18_.n, 0, none⟩) 2 2), H18_.push ⟨[Value.int .i64 3, .int .i64 4], 3, false⟩)).trans (by rw [← hH19_])) (by kernel_rfl) (calm_no (by kernel_rfl)) (by kernel_rfl) ?_
          refine aopsV_go 1 (by kernel_rfl) (by kernel_rfl) ?_
          have gH19_D : H19_.get (D) = some ⟨[Value.slice (some ⟨A1, off1, none⟩) ops.length cap1, .slice (some ⟨A2, off2, none⟩) az.length cap2, .slice (some ⟨A3, off3, none⟩) bs.length cap3, (.slice pt4 outs.length cap4), .int .i64 fl, .bool wr], 24, false⟩ := by rw [hH19_, Heap.get_push, if_neg (by omega)]; exact gH18_D
          refine aopsV_val 50 (.slice (some ⟨A1, off1, none⟩) ops.length cap1) H19_ H19_ (by kernel_rfl) ((by kernel_rfl : _ = val (aload T2 22 (.pointer (some ⟨D, 0, none⟩)) H19_) H19_).trans (val_of ((aload_at gH19_D).trans (by kernel_rfl)))) (by kernel_rfl) (calm_no (by kernel_rfl)) (by kernel_rfl) ?_
          refine aopsV_go 1 (by kernel_rfl) (by kernel_rfl) ?_
          refine aopsV_val 52 (.pointer (some ⟨A1, off1 + k * 1, none⟩)) H19_ H19_ (by kernel_rfl) ((by kernel_rfl : _ = val (bif (k : Nat).blt ops.length then some (.pointer (some ⟨A1, off1 + k * 1, none⟩)) else none) H19_).trans (by rw [show (k : Nat).blt ops.length = true from (by rw [blt_dec]; simp only [decide_eq_true_eq]; omega)]; rfl)) (by kernel_rfl) (calm_no (by kernel_rfl)) (by kernel_rfl) ?_
          have gH19_A1 : H19_.get (A1) = some ⟨cells1, e1, ro1⟩ := by rw [hH19_, Heap.get_push, if_neg (by omega)]; exact gH18_A1
          refine aopsV_val 53 (.int .i64 o) H19_ H19_ (by kernel_rfl) ((by kernel_rfl : _ = val (aload T2 3 (.pointer (some ⟨A1, off1 + k * 1, none⟩)) H19_) H19_).trans (val_of ((aload_at gH19_A1).trans (aloadC_cellB (n := 1) (by kernel_rfl) (by kernel_rfl) co)))) (by kernel_rfl) (calm_no (by kernel_rfl)) (by kernel_rfl) ?_
          refine aopsV_ask 54 (.int .i64 (0 + o % (1 - 0 + 1))) 12 #[.int .i64 o, .int .i64 0, .int .i64 1] (by kernel_rfl) (by kernel_rfl) (orc12 o 0 1 (by simp only [inB, Bool.and_eq_true, decide_eq_true_eq]; omega)) ?_
          refine aopsV_see 54 (.int .i64 1) (see_int (x := (0 + o % (1 - 0 + 1))) (by kernel_rfl) (by omega)) ?_
          refine aopsV_go 1 (by kernel_rfl) (by kernel_rfl) ?_
          have gH19_H18__n : H19_.get (H18_.n) = some ⟨[Value.int .i64 3, .int .i64 4], 3, false⟩ := by rw [hH19_]; exact (Heap.get_push _ _ _).trans (if_pos rfl)
          refine aopsV_get 56 (.int .i64 4) (.pointer (some ⟨H18_.n, 1, none⟩)) (.tmp 55) H19_ (by kernel_rfl) (by kernel_rfl) (by kernel_rfl) (by kernel_rfl) ((by kernel_rfl : _ = aload T2 3 (.pointer (some ⟨H18_.n, 1, none⟩)) H19_).trans ((aload_at gH19_H18__n).trans (by kernel_rfl))) (veq_int _ _) (lowB_ptr (by omega)) ((by kernel_rfl : _ = val (aload T2 3 (.pointer (some ⟨H18_.n, 1, none⟩)) H19_) H19_).trans (val_to ((aload_at gH19_H18__n).trans (by kernel_rfl)) (by kernel_rfl))) ?_
          refine aopsV_go 2 (by kernel_rfl) (by kernel_rfl) ?_
          refine aopsV_get 59 (.slice (some ⟨A2, off2, none⟩) az.length cap2) (.pointer (some ⟨D, 1, none⟩)) (.tmp 58) H19_ (by kernel_rfl) (by kernel_rfl) (by kernel_rfl) (by kernel_rfl) ((by kernel_rfl : _ = aload T2 22 (.pointer (some ⟨D, 1, none⟩)) H19_).trans ((aload_at gH19_D).trans (by kernel_rfl))) (veq_slice _ _ _) (lowB_ptr (by omega)) ((by kernel_rfl : _ = val (aload T2 22 (.pointer (some ⟨D, 1, none⟩)) H19_) H19_).trans (val_to ((aload_at gH19_D).trans (by kernel_rfl)) (by kernel_rfl))) ?_
          refine aopsV_go 1 (by kernel_rfl) (by kernel_rfl) ?_
          refine aopsV_val 61 (.pointer (some ⟨A2, off2 + k * 1, none⟩)) H19_ H19_ (by kernel_rfl) ((by kernel_rfl : _ = val (bif (k : Nat).blt az.length then some (.pointer (some ⟨A2, off2 + k * 1, none⟩)) else none) H19_).trans (by rw [show (k : Nat).blt az.length = true from (by rw [blt_dec]; simp only [decide_eq_true_eq]; omega)]; rfl)) (by kernel_rfl) (fun _ => Up.refl _) (by kernel_rfl) ?_
          have gH19_A2 : H19_.get (A2) = some ⟨cells2, e2, ro2⟩ := by rw [hH19_, Heap.get_push, if_neg (by omega)]; rw [hH18_, Heap.get_put, if_neg (by omega)]; rw [hH17_, Heap.get_push, if_neg (by omega)]; rw [uH1.get _ (by omega)]; exact gA2
          refine aopsV_get 62 (.int .i64 a) (.pointer (some ⟨A2, off2 + k * 1, none⟩)) (.tmp 61) H19_ (by kernel_rfl) (by kernel_rfl) (by kernel_rfl) (by kernel_rfl) ((by kernel_rfl : _ = aload T2 3 (.pointer (some ⟨A2, off2 + k * 1, none⟩)) H19_).trans ((aload_at gH19_A2).trans (aloadC_cellB (n := 1) (by kernel_rfl) (by kernel_rfl) ca))) (veq_int _ _) (lowB_ptr (by omega)) ((by kernel_rfl : _ = val (aload T2 3 (.pointer (some ⟨A2, off2 + k * 1, none⟩)) H19_) H19_).trans (val_to ((aload_at gH19_A2).trans (aloadC_cellB (n := 1) (by kernel_rfl) (by kernel_rfl) ca)) (by kernel_rfl))) ?_
          refine aopsV_go 2 (by kernel_rfl) (by kernel_rfl) ?_
          refine aopsV_see 64 (.int .i64 (((k : Nat) : Int) - 1)) (see_int (x := (IntKind.i64.wrap (((k : Nat) : Int) - 1))) (by kernel_rfl) (w64 (by omega) (by omega) (by omega))) ?_
          refine aopsV_ask 65 (.int .i64 (0 + a % ((((k : Nat) : Int) - 1) - 0 + 1))) 12 #[.int .i64 a, .int .i64 0, .int .i64 (((k : Nat) : Int) - 1)] (by kernel_rfl) (by kernel_rfl) (orc12 a 0 (((k : Nat) : Int) - 1) (by simp only [inB, Bool.and_eq_true, decide_eq_true_eq]; omega)) ?_
          refine aopsV_see 65 (.int .i64 (a % ((k : Nat) : Int))) (see_int (x := (0 + a % ((((k : Nat) : Int) - 1) - 0 + 1))) (by kernel_rfl) (by rw [show ((((k : Nat) : Int) - 1) - 0 + 1 : Int) = ((k : Nat) : Int) by omega]; omega)) ?_
          refine aopsV_go 1 (by kernel_rfl) (by kernel_rfl) ?_
          refine aopsV_get 67 (.slice (some ⟨A3, off3, none⟩) bs.length cap3) (.pointer (some ⟨D, 2, none⟩)) (.tmp 66) H19_ (by kernel_rfl) (by kernel_rfl) (by kernel_rfl) (by kernel_rfl) ((by kernel_rfl : _ = aload T2 22 (.pointer (some ⟨D, 2, none⟩)) H19_).trans ((aload_at gH19_D).trans (by kernel_rfl))) (veq_slice _ _ _) (lowB_ptr (by omega)) ((by kernel_rfl : _ = val (aload T2 22 (.pointer (some ⟨D, 2, none⟩)) H19_) H19_).trans (val_to ((aload_at gH19_D).trans (by kernel_rfl)) (by kernel_rfl))) ?_
          refine aopsV_go 1 (by kernel_rfl) (by kernel_rfl) ?_
          refine aopsV_val 69 (.pointer (some ⟨A3, off3 + k * 1, none⟩)) H19_ H19_ (by kernel_rfl) ((by kernel_rfl : _ = val (bif (k : Nat).blt bs.length then some (.pointer (some ⟨A3, off3 + k * 1, none⟩)) else none) H19_).trans (by rw [show (k : Nat).blt bs.length = true from (by rw [blt_dec]; simp only [decide_eq_true_eq]; omega)]; rfl)) (by kernel_rfl) (fun _ => Up.refl _) (by kernel_rfl) ?_
          have gH19_A3 : H19_.get (A3) = some ⟨cells3, e3, ro3⟩ := by rw [hH19_, Heap.get_push, if_neg (by omega)]; rw [hH18_, Heap.get_put, if_neg (by omega)]; rw [hH17_, Heap.get_push, if_neg (by omega)]; rw [uH1.get _ (by omega)]; exact gA3
          refine aopsV_get 70 (.int .i64 b) (.pointer (some ⟨A3, off3 + k * 1, none⟩)) (.tmp 69) H19_ (by kernel_rfl) (by kernel_rfl) (by kernel_rfl) (by kernel_rfl) ((by kernel_rfl : _ = aload T2 3 (.pointer (some ⟨A3, off3 + k * 1, none⟩)) H19_).trans ((aload_at gH19_A3).trans (aloadC_cellB (n := 1) (by kernel_rfl) (by kernel_rfl) cb))) (veq_int _ _) (lowB_ptr (by omega)) ((by kernel_rfl : _ = val (aload T2 3 (.pointer (some ⟨A3, off3 + k * 1, none⟩)) H19_) H19_).trans (val_to ((aload_at gH19_A3).trans (aloadC_cellB (n := 1) (by kernel_rfl) (by kernel_rfl) cb)) (by kernel_rfl))) ?_
          refine aopsV_go 2 (by kernel_rfl) (by kernel_rfl) ?_
          refine aopsV_see 72 (.int .i64 (((k : Nat) : Int) - 1)) (see_int (x := (IntKind.i64.wrap (((k : Nat) : Int) - 1))) (by kernel_rfl) (w64 (by omega) (by omega) (by omega))) ?_
          refine aopsV_ask 73 (.int .i64 (0 + b % ((((k : Nat) : Int) - 1) - 0 + 1))) 12 #[.int .i64 b, .int .i64 0, .int .i64 (((k : Nat) : Int) - 1)] (by kernel_rfl) (by kernel_rfl) (orc12 b 0 (((k : Nat) : Int) - 1) (by simp only [inB, Bool.and_eq_true, decide_eq_true_eq]; omega)) ?_
          refine aopsV_see 73 (.int .i64 (b % ((k : Nat) : Int))) (see_int (x := (0 + b % ((((k : Nat) : Int) - 1) - 0 + 1))) (by kernel_rfl) (by rw [show ((((k : Nat) : Int) - 1) - 0 + 1 : Int) = ((k : Nat) : Int) by omega]; omega)) ?_
          refine aopsV_go 1 (by kernel_rfl) (by kernel_rfl) ?_
          have gH19_H1_n : H19_.get (H1.n) = some ⟨[Value.int .i64 0, .int .i64 ((k : Nat) : Int), .int .i64 0, .int .i64 0, .int .u32 ((k : Nat) : Int)], 50, false⟩ := by rw [hH19_, Heap.get_push, if_neg (by omega)]; rw [hH18_]; exact (Heap.get_put _ _ _ _).trans (if_pos rfl)
          obtain ⟨H20_, hH20_⟩ : ∃ x : Heap, x = H19_.put (H1.n) ⟨[Value.int .i64 4, .int .i64 ((k : Nat) : Int), .int .i64 (a % ((k : Nat) : Int)), .int .i64 (b % ((k : Nat) : Int)), .int .u32 20], 50, false⟩ := ⟨_, rfl⟩
          have nH20_ : H20_.n = H19_.n := by rw [hH20_]; rfl
          refine aopsV_skip H19_ H20_ (by kernel_rfl) (by kernel_rfl) (by kernel_rfl) ((by kernel_rfl : _ = skp (astore T2 50 (.pointer (some ⟨H1.n, 0, none⟩)) (.agg #[.int .i64 4, .int .i64 ((k : Nat) : Int), .int .i64 (a % ((k : Nat) : Int)), .int .i64 (b % ((k : Nat) : Int)), .int .u32 20]) H19_)).trans (by rw [astore_to gH19_H1_n (by kernel_rfl), ← hH20_]; rfl)) (by kernel_rfl) (calm_no (by kernel_rfl)) ?_
          refine aopsV_end (by kernel_rfl) ?_
          refine cf_go 3 ?_
          have gH20_PP : H20_.get (PP) = some ⟨[(.slice pc k cc), .int .i64 0, .int .i64 0, .int .i64 0, .int .i64 0, .slice none 0 0, .slice none 0 0, .int .i64 (-1), .int .u32 0, .int .i64 (-1), .int .i64 0, .int .u32 0, .int .i64 1, .int .i64 0], 29, false⟩ := by rw [hH20_, Heap.get_put, if_neg (by omega)]; rw [hH19_, Heap.get_push, if_neg (by omega)]; rw [hH18_, Heap.get_put, if_neg (by omega)]; rw [hH17_, Heap.get_push, if_neg (by omega)]; exact gP
          refine cf_val 76 ((.slice pc k cc)) H20_ (by kernel_rfl) ((by kernel_rfl : _ = val (aload T2 26 (.pointer (some ⟨PP, 0, none⟩)) H20_) H20_).trans (val_of ((aload_at gH20_PP).trans (by kernel_rfl)))) ?_
          have gH20_H1_n : H20_.get (H1.n) = some ⟨[Value.int .i64 4, .int .i64 ((k : Nat) : Int), .int .i64 (a % ((k : Nat) : Int)), .int .i64 (b % ((k : Nat) : Int)), .int .u32 20], 50, false⟩ := by rw [hH20_]; exact (Heap.get_put _ _ _ _).trans (if_pos rfl)
          refine cf_val 77 (.agg #[.int .i64 4, .int .i64 ((k : Nat) : Int), .int .i64 (a % ((k : Nat) : Int)), .int .i64 (b % ((k : Nat) : Int)), .int .u32 20]) H20_ (by kernel_rfl) ((by kernel_rfl : _ = val (aload T2 50 (.pointer (some ⟨H1.n, 0, none⟩)) H20_) H20_).trans (val_of ((aload_at gH20_H1_n).trans (by kernel_rfl)))) ?_
          obtain ⟨H21_, hH21_⟩ : ∃ x : Heap, x = H20_.push ⟨[Value.int .i64 4, .int .i64 ((k : Nat) : Int), .int .i64 (a % ((k : Nat) : Int)), .int .i64 (b % ((k : Nat) : Int)), .int .u32 20], 50, false⟩ := ⟨_, rfl⟩
          have nH21_ : H21_.n = H20_.n + 1 := by rw [hH21_]; rfl
          refine cf_val 78 (.slice (some ⟨H20_.n, 0, none⟩) 1 1) H21_ (by kernel_rfl) ((by kernel_rfl : _ = some (Res.val (.slice (some ⟨H20_.n, 0, none⟩) 1 1), H20_.push ⟨[Value.int .i64 4, .int .i64 ((k : Nat) : Int), .int .i64 (a % ((k : Nat) : Int)), .int .i64 (b % ((k : Nat) : Int)), .int .u32 20], 50, false⟩)).trans (by rw [← hH21_])) ?_
          have gH21_H20__n : H21_.get (H20_.n) = some ⟨[Value.int .i64 4, .int .i64 ((k : Nat) : Int), .int .i64 (a % ((k : Nat) : Int)), .int .i64 (b % ((k : Nat) : Int)), .int .u32 20], 50, false⟩ := by rw [hH21_]; exact (Heap.get_push _ _ _).trans (if_pos rfl)
          have gk21_ := hgr.keep (H' := H21_) (lo' := H.n) (by omega) (fun b hb1 hb2 => by rw [hH21_, Heap.get_push, if_neg (by omega), hH20_, Heap.get_put, if_neg (by omega), hH19_, Heap.get_push, if_neg (by omega), hH18_, Heap.get_put, if_neg (by omega), hH17_, Heap.get_push, if_neg (by omega)])
          have gH21_D : H21_.get (D) = some ⟨[Value.slice (some ⟨A1, off1, none⟩) ops.length cap1, .slice (some ⟨A2, off2, none⟩) az.length cap2, .slice (some ⟨A3, off3, none⟩) bs.length cap3, (.slice pt4 outs.length cap4), .int .i64 fl, .bool wr], 24, false⟩ := by rw [hH21_, Heap.get_push, if_neg (by omega)]; rw [hH20_, Heap.get_put, if_neg (by omega)]; exact gH19_D
          have gH21_T2_ : H21_.get (T2_) = some ⟨[Value.slice none 0 0, .int .i64 0, .int .i64 0, .int .i64 0, .int .i64 0, .slice none 0 0, .slice none 0 0, .int .i64 0, .int .u32 0, .int .i64 0, .int .i64 0, .int .u32 0, .int .i64 0, .int .i64 0], 29, false⟩ := by rw [hH21_, Heap.get_push, if_neg (by omega)]; rw [hH20_, Heap.get_put, if_neg (by omega)]; rw [hH19_, Heap.get_push, if_neg (by omega)]; rw [hH18_, Heap.get_put, if_neg (by omega)]; rw [hH17_, Heap.get_push, if_neg (by omega)]; exact gT
          have gH21_PP : H21_.get (PP) = some ⟨[(.slice pc k cc), .int .i64 0, .int .i64 0, .int .i64 0, .int .i64 0, .slice none 0 0, .slice none 0 0, .int .i64 (-1), .int .u32 0, .int .i64 (-1), .int .i64 0, .int .u32 0, .int .i64 1, .int .i64 0], 29, false⟩ := by rw [hH21_, Heap.get_push, if_neg (by omega)]; exact gH20_PP
          have gH21_H18__n : H21_.get (H18_.n) = some ⟨[Value.int .i64 3, .int .i64 4], 3, false⟩ := by rw [hH21_, Heap.get_push, if_neg (by omega)]; rw [hH20_, Heap.get_put, if_neg (by omega)]; exact gH19_H18__n
          obtain ⟨ovH22_, H22_, hapH22_, hgrH22_, uH22_, frH22_, nH22_, hvH22_⟩ := aappend_gr (T := T2) (st := 26) (xt := 26) (e := 50) (xd := .slice 50) (s0 := 4) (by_ := 39) (z := .agg #[.int .i64 0, .int .i64 0, .int .i64 0, .int .i64 0, .int .u32 0]) (by kernel_rfl) (by kernel_rfl) rfl (by kernel_rfl) (by kernel_rfl) (by kernel_rfl) (lo := H.n) gk21_ (x := .slice (some ⟨H20_.n, 0, none⟩) 1 1) (asrc_blk (l := [Value.int .i64 4, .int .i64 ((k : Nat) : Int), .int .i64 (a % ((k : Nat) : Int)), .int .i64 (b % ((k : Nat) : Int)), .int .u32 20]) gH21_H20__n rfl rfl) rfl rfl (by omega) (Gr.ne hgr (by omega)) (by omega) (by omega)
          subst hvH22_
          have gH22_Dc : H22_.get (D) = some ⟨[Value.slice (some ⟨A1, off1, none⟩) ops.length cap1, .slice (some ⟨A2, off2, none⟩) az.length cap2, .slice (some ⟨A3, off3, none⟩) bs.length cap3, (.slice pt4 outs.length cap4), .int .i64 fl, .bool wr], 24, false⟩ := by rw [frH22_ _ (by omega) (Gr.neT gk21_ gH21_D (by decide))]; exact gH21_D
          have gH22_T2_c : H22_.get (T2_) = some ⟨[Value.slice none 0 0, .int .i64 0, .int .i64 0, .int .i64 0, .int .i64 0, .slice none 0 0, .slice none 0 0, .int .i64 0, .int .u32 0, .int .i64 0, .int .i64 0, .int .u32 0, .int .i64 0, .int .i64 0], 29, false⟩ := by rw [frH22_ _ (by omega) (Gr.neT gk21_ gH21_T2_ (by decide))]; exact gH21_T2_
          have gH22_PPc : H22_.get (PP) = some ⟨[(.slice pc k cc), .int .i64 0, .int .i64 0, .int .i64 0, .int .i64 0, .slice none 0 0, .slice none 0 0, .int .i64 (-1), .int .u32 0, .int .i64 (-1), .int .i64 0, .int .u32 0, .int .i64 1, .int .i64 0], 29, false⟩ := by rw [frH22_ _ (by omega) (Gr.neT gk21_ gH21_PP (by decide))]; exact gH21_PP
          have gH22_H18__nc : H22_.get (H18_.n) = some ⟨[Value.int .i64 3, .int .i64 4], 3, false⟩ := by rw [frH22_ _ (by omega) (Gr.neT gk21_ gH21_H18__n (by decide))]; exact gH21_H18__n
          refine cf_val 79 (.slice (some ⟨H21_.n, 0, none⟩) (k + 1) (unk + 5)) H22_ (by kernel_rfl) ((by kernel_rfl : _ = val2 (aappend T2 26 26 (.slice pc k cc) (.slice (some ⟨H20_.n, 0, none⟩) 1 1) H21_)).trans (by rw [hapH22_]; rfl)) ?_
          refine cf_go 1 ?_
          obtain ⟨H23_, hH23_⟩ : ∃ x : Heap, x = H22_.put (PP) ⟨[Value.slice (some ⟨H21_.n, 0, none⟩) (k + 1) (unk + 5), .int .i64 0, .int .i64 0, .int .i64 0, .int .i64 0, .slice none 0 0, .slice none 0 0, .int .i64 (-1), .int .u32 0, .int .i64 (-1), .int .i64 0, .int .u32 0, .int .i64 1, .int .i64 0], 29, false⟩ := ⟨_, rfl⟩
          have nH23_ : H23_.n = H22_.n := by rw [hH23_]; rfl
          refine cf_skip H23_ (by kernel_rfl) ((by kernel_rfl : _ = skp (astore T2 26 (.pointer (some ⟨PP, 0, none⟩)) (.slice (some ⟨H21_.n, 0, none⟩) (k + 1) (unk + 5)) H22_)).trans (by rw [astore_to gH22_PPc (by kernel_rfl), ← hH23_]; rfl)) ?_
          refine cf_go 6 ?_
          refine cf_see 32 (.int .i64 ((k + 1 : Nat) : Int)) (see_int (x := (IntKind.i64.wrap (((k : Nat) : Int) + 1))) (by kernel_rfl) (w64 (by omega) (by omega) (by omega))) ?_
          refine cf_go 2 ?_
          have gH23_D : H23_.get (D) = some ⟨[Value.slice (some ⟨A1, off1, none⟩) ops.length cap1, .slice (some ⟨A2, off2, none⟩) az.length cap2, .slice (some ⟨A3, off3, none⟩) bs.length cap3, (.slice pt4 outs.length cap4), .int .i64 fl, .bool wr], 24, false⟩ := by rw [hH23_, Heap.get_put, if_neg (by omega)]; exact gH22_Dc
          have gH23_T2_ : H23_.get (T2_) = some ⟨[Value.slice none 0 0, .int .i64 0, .int .i64 0, .int .i64 0, .int .i64 0, .slice none 0 0, .slice none 0 0, .int .i64 0, .int .u32 0, .int .i64 0, .int .i64 0, .int .u32 0, .int .i64 0, .int .i64 0], 29, false⟩ := by rw [hH23_, Heap.get_put, if_neg (by omega)]; exact gH22_T2_c
          have gH23_PP : H23_.get (PP) = some ⟨[Value.slice (some ⟨H21_.n, 0, none⟩) (k + 1) (unk + 5), .int .i64 0, .int .i64 0, .int .i64 0, .int .i64 0, .slice none 0 0, .slice none 0 0, .int .i64 (-1), .int .u32 0, .int .i64 (-1), .int .i64 0, .int .u32 0, .int .i64 1, .int .i64 0], 29, false⟩ := by rw [hH23_]; exact (Heap.get_put _ _ _ _).trans (if_pos rfl)
          have hmk : mkI ops az bs k = (4, (k : Int), a % (k : Int), b % (k : Int), 20) := by unfold mkI; rw [eo, ea, eb]; rw [if_pos (by omega), hp]; rfl
          have hgr9 : Gr H23_ H.n 50 5 (.slice (some ⟨H21_.n, 0, none⟩) (k + 1) (unk + 5)) (k + 1) (iis (mkC ops az bs (k + 1))) := by rw [mkC_succ, hmk, iis_snoc]; exact (Gr.keepX hgrH22_ gH22_PPc gH22_T2_c (by decide) (by omega) (fun b hb1 hb2 hb3 hb4 => by rw [hH23_, Heap.get_put, if_neg (by omega)]))
          refine cf_inv Rr1 (by kernel_rfl) (hRr1 _ ⟨N - (k + 1), by omega, k + 1, _, H23_, rfl, by omega, gH23_D, gH23_T2_, gH23_PP, hgr9, by omega, by omega, by omega, (show Up H.n H H23_ from ⟨by omega, fun b hb => by rw [hH23_, Heap.get_put, if_neg (by omega), uH22_.get _ (by omega), hH21_, Heap.get_push, if_neg (by omega), hH20_, Heap.get_put, if_neg (by omega), hH19_, Heap.get_push, if_neg (by omega), hH18_, Heap.get_put, if_neg (by omega), hH17_, Heap.get_push, if_neg (by omega), uH1.get _ (by omega)]⟩), ⟨(by kernel_rfl), (by kernel_rfl), (by kernel_rfl), (by kernel_rfl), True.intro⟩, (by kernel_rfl)⟩)
      · skip
        refine cf_go 5 ?_
        refine cf_val 10 (.slice (some ⟨A1, off1, none⟩) ops.length cap1) H1 (by kernel_rfl) ((by kernel_rfl : _ = val (aload T2 22 (.pointer (some ⟨D, 0, none⟩)) H1) H1).trans (val_of ((aload_at gD).trans (by kernel_rfl)))) ?_
        refine cf_go 2 ?_
        refine cf_see 12 (.bool true) (see_bool (by kernel_rfl) ((decide_eq_true (by omega)) : ((decide (((k : Nat) : Int) < ((ops.length : Nat) : Int)))) = true)) ?_
        refine cf_go 3 ?_
        refine cf_val 16 (.slice (some ⟨A2, off2, none⟩) az.length cap2) H1 (by kernel_rfl) ((by kernel_rfl : _ = val (aload T2 22 (.pointer (some ⟨D, 1, none⟩)) H1) H1).trans (val_of ((aload_at gD).trans (by kernel_rfl)))) ?_
        refine cf_go 2 ?_
        refine cf_see 18 (.bool true) (see_bool (by kernel_rfl) ((decide_eq_true (by omega)) : ((decide (((k : Nat) : Int) < ((az.length : Nat) : Int)))) = true)) ?_
        refine cf_go 4 ?_
        refine cf_val 23 (.slice (some ⟨A3, off3, none⟩) bs.length cap3) H1 (by kernel_rfl) ((by kernel_rfl : _ = val (aload T2 22 (.pointer (some ⟨D, 2, none⟩)) H1) H1).trans (val_of ((aload_at gD).trans (by kernel_rfl)))) ?_
        refine cf_go 2 ?_
        refine cf_see 25 (.bool true) (see_bool (by kernel_rfl) ((decide_eq_true (by omega)) : ((decide (((k : Nat) : Int) < ((bs.length : Nat) : Int)))) = true)) ?_
        refine cf_go 4 ?_
        refine cf_see 29 (.bool true) (see_bool (by kernel_rfl) ((decide_eq_true (by omega)) : ((decide (((k : Nat) : Int) < 30))) = true)) ?_
        refine cf_go 13 ?_
        refine cf_see 35 (.int .u32 ((k : Nat) : Int)) (see_int (x := IntKind.u32.wrap ((k : Nat) : Int)) (by kernel_rfl) (wu32 rfl (by omega) (by omega))) ?_
        refine cf_go 1 ?_
        obtain ⟨H24_, hH24_⟩ : ∃ x : Heap, x = H1.push ⟨[Value.int .i64 0, .int .i64 0, .int .i64 0, .int .i64 0, .int .u32 0], 50, false⟩ := ⟨_, rfl⟩
        have nH24_ : H24_.n = H1.n + 1 := by rw [hH24_]; rfl
        refine cf_val 5 (.pointer (some ⟨H1.n, 0, none⟩)) H24_ (by kernel_rfl) ((by kernel_rfl : _ = some (Res.val (.pointer (some ⟨H1.n, 0, none⟩)), H1.push ⟨[Value.int .i64 0, .int .i64 0, .int .i64 0, .int .i64 0, .int .u32 0], 50, false⟩)).trans (by rw [← hH24_])) ?_
        have gH24_H1_n : H24_.get (H1.n) = some ⟨[Value.int .i64 0, .int .i64 0, .int .i64 0, .int .i64 0, .int .u32 0], 50, false⟩ := by rw [hH24_]; exact (Heap.get_push _ _ _).trans (if_pos rfl)
        obtain ⟨H25_, hH25_⟩ : ∃ x : Heap, x = H24_.put (H1.n) ⟨[Value.int .i64 0, .int .i64 ((k : Nat) : Int), .int .i64 0, .int .i64 0, .int .u32 ((k : Nat) : Int)], 50, false⟩ := ⟨_, rfl⟩
        have nH25_ : H25_.n = H24_.n := by rw [hH25_]; rfl
        refine cf_skip H25_ (by kernel_rfl) ((by kernel_rfl : _ = skp (astore T2 50 (.pointer (some ⟨H1.n, 0, none⟩)) (.agg #[.int .i64 0, .int .i64 ((k : Nat) : Int), .int .i64 0, .int .i64 0, .int .u32 ((k : Nat) : Int)]) H24_)).trans (by rw [astore_to gH24_H1_n (by kernel_rfl), ← hH25_]; rfl)) ?_
        refine cf_go 7 ?_
        refine cf_see 38 (.bool true) (see_bool (by kernel_rfl) ((decide_eq_true (by omega)) : ((decide (((k : Nat) : Int) > 0))) = true)) ?_
        refine cf_go 2 ?_
        have gH25_D : H25_.get (D) = some ⟨[Value.slice (some ⟨A1, off1, none⟩) ops.length cap1, .slice (some ⟨A2, off2, none⟩) az.length cap2, .slice (some ⟨A3, off3, none⟩) bs.length cap3, (.slice pt4 outs.length cap4), .int .i64 fl, .bool wr], 24, false⟩ := by rw [hH25_, Heap.get_put, if_neg (by omega)]; rw [hH24_, Heap.get_push, if_neg (by omega)]; exact gD
        refine cf_val 41 (.slice (some ⟨A1, off1, none⟩) ops.length cap1) H25_ (by kernel_rfl) ((by kernel_rfl : _ = val (aload T2 22 (.pointer (some ⟨D, 0, none⟩)) H25_) H25_).trans (val_of ((aload_at gH25_D).trans (by kernel_rfl)))) ?_
        refine cf_go 1 ?_
        refine cf_val 43 (.pointer (some ⟨A1, off1 + k * 1, none⟩)) H25_ (by kernel_rfl) ((by kernel_rfl : _ = val (bif (k : Nat).blt ops.length then some (.pointer (some ⟨A1, off1 + k * 1, none⟩)) else none) H25_).trans (by rw [show (k : Nat).blt ops.length = true from (by rw [blt_dec]; simp only [decide_eq_true_eq]; omega)]; rfl)) ?_
        have gH25_A1 : H25_.get (A1) = some ⟨cells1, e1, ro1⟩ := by rw [hH25_, Heap.get_put, if_neg (by omega)]; rw [hH24_, Heap.get_push, if_neg (by omega)]; rw [uH1.get _ (by omega)]; exact gA1
        refine cf_val 44 (.int .i64 o) H25_ (by kernel_rfl) ((by kernel_rfl : _ = val (aload T2 3 (.pointer (some ⟨A1, off1 + k * 1, none⟩)) H25_) H25_).trans (val_of ((aload_at gH25_A1).trans (aloadC_cellB (n := 1) (by kernel_rfl) (by kernel_rfl) co)))) ?_
        refine cf_go 2 ?_
        refine cf_see 46 (.bool false) (see_bool (by kernel_rfl) ((decide_eq_false ht) : ((decide (((Int.tmod o 3) : Int) > 0))) = false)) ?_
        refine cf_go 8 ?_
        have gH25_PP : H25_.get (PP) = some ⟨[(.slice pc k cc), .int .i64 0, .int .i64 0, .int .i64 0, .int .i64 0, .slice none 0 0, .slice none 0 0, .int .i64 (-1), .int .u32 0, .int .i64 (-1), .int .i64 0, .int .u32 0, .int .i64 1, .int .i64 0], 29, false⟩ := by rw [hH25_, Heap.get_put, if_neg (by omega)]; rw [hH24_, Heap.get_push, if_neg (by omega)]; exact gP
        refine cf_val 76 ((.slice pc k cc)) H25_ (by kernel_rfl) ((by kernel_rfl : _ = val (aload T2 26 (.pointer (some ⟨PP, 0, none⟩)) H25_) H25_).trans (val_of ((aload_at gH25_PP).trans (by kernel_rfl)))) ?_
        have gH25_H1_n : H25_.get (H1.n) = some ⟨[Value.int .i64 0, .int .i64 ((k : Nat) : Int), .int .i64 0, .int .i64 0, .int .u32 ((k : Nat) : Int)], 50, false⟩ := by rw [hH25_]; exact (Heap.get_put _ _ _ _).trans (if_pos rfl)
        refine cf_val 77 (.agg #[.int .i64 0, .int .i64 ((k : Nat) : Int), .int .i64 0, .int .i64 0, .int .u32 ((k : Nat) : Int)]) H25_ (by kernel_rfl) ((by kernel_rfl : _ = val (aload T2 50 (.pointer (some ⟨H1.n, 0, none⟩)) H25_) H25_).trans (val_of ((aload_at gH25_H1_n).trans (by kernel_rfl)))) ?_
        obtain ⟨H26_, hH26_⟩ : ∃ x : Heap, x = H25_.push ⟨[Value.int .i64 0, .int .i64 ((k : Nat) : Int), .int .i64 0, .int .i64 0, .int .u32 ((k : Nat) : Int)], 50, false⟩ := ⟨_, rfl⟩
        have nH26_ : H26_.n = H25_.n + 1 := by rw [hH26_]; rfl
        refine cf_val 78 (.slice (some ⟨H25_.n, 0, none⟩) 1 1) H26_ (by kernel_rfl) ((by kernel_rfl : _ = some (Res.val (.slice (some ⟨H25_.n, 0, none⟩) 1 1), H25_.push ⟨[Value.int .i64 0, .int .i64 ((k : Nat) : Int), .int .i64 0, .int .i64 0, .int .u32 ((k : Nat) : Int)], 50, false⟩)).trans (by rw [← hH26_])) ?_
        have gH26_H25__n : H26_.get (H25_.n) = some ⟨[Value.int .i64 0, .int .i64 ((k : Nat) : Int), .int .i64 0, .int .i64 0, .int .u32 ((k : Nat) : Int)], 50, false⟩ := by rw [hH26_]; exact (Heap.get_push _ _ _).trans (if_pos rfl)
        have gk26_ := hgr.keep (H' := H26_) (lo' := H.n) (by omega) (fun b hb1 hb2 => by rw [hH26_, Heap.get_push, if_neg (by omega), hH25_, Heap.get_put, if_neg (by omega), hH24_, Heap.get_push, if_neg (by omega)])
        have gH26_D : H26_.get (D) = some ⟨[Value.slice (some ⟨A1, off1, none⟩) ops.length cap1, .slice (some ⟨A2, off2, none⟩) az.length cap2, .slice (some ⟨A3, off3, none⟩) bs.length cap3, (.slice pt4 outs.length cap4), .int .i64 fl, .bool wr], 24, false⟩ := by rw [hH26_, Heap.get_push, if_neg (by omega)]; exact gH25_D
        have gH26_T2_ : H26_.get (T2_) = some ⟨[Value.slice none 0 0, .int .i64 0, .int .i64 0, .int .i64 0, .int .i64 0, .slice none 0 0, .slice none 0 0, .int .i64 0, .int .u32 0, .int .i64 0, .int .i64 0, .int .u32 0, .int .i64 0, .int .i64 0], 29, false⟩ := by rw [hH26_, Heap.get_push, if_neg (by omega)]; rw [hH25_, Heap.get_put, if_neg (by omega)]; rw [hH24_, Heap.get_push, if_neg (by omega)]; exact gT
        have gH26_PP : H26_.get (PP) = some ⟨[(.slice pc k cc), .int .i64 0, .int .i64 0, .int .i64 0, .int .i64 0, .slice none 0 0, .slice none 0 0, .int .i64 (-1), .int .u32 0, .int .i64 (-1), .int .i64 0, .int .u32 0, .int .i64 1, .int .i64 0], 29, false⟩ := by rw [hH26_, Heap.get_push, if_neg (by omega)]; exact gH25_PP
        obtain ⟨ovH27_, H27_, hapH27_, hgrH27_, uH27_, frH27_, nH27_, hvH27_⟩ := aappend_gr (T := T2) (st := 26) (xt := 26) (e := 50) (xd := .slice 50) (s0 := 4) (by_ := 39) (z := .agg #[.int .i64 0, .int .i64 0, .int .i64 0, .int .i64 0, .int .u32 0]) (by kernel_rfl) (by kernel_rfl) rfl (by kernel_rfl) (by kernel_rfl) (by kernel_rfl) (lo := H.n) gk26_ (x := .slice (some ⟨H25_.n, 0, none⟩) 1 1) (asrc_blk (l := [Value.int .i64 0, .int .i64 ((k : Nat) : Int), .int .i64 0, .int .i64 0, .int .u32 ((k : Nat) : Int)]) gH26_H25__n rfl rfl) rfl rfl (by omega) (Gr.ne hgr (by omega)) (by omega) (by omega)
        subst hvH27_
        have gH27_Dc : H27_.get (D) = some ⟨[Value.slice (some ⟨A1, off1, none⟩) ops.length cap1, .slice (some ⟨A2, off2, none⟩) az.length cap2, .slice (some ⟨A3, off3, none⟩) bs.length cap3, (.slice pt4 outs.length cap4), .int .i64 fl, .bool wr], 24, false⟩ := by rw [frH27_ _ (by omega) (Gr.neT gk26_ gH26_D (by decide))]; exact gH26_D
        have gH27_T2_c : H27_.get (T2_) = some ⟨[Value.slice none 0 0, .int .i64 0, .int .i64 0, .int .i64 0, .int .i64 0, .slice none 0 0, .slice none 0 0, .int .i64 0, .int .u32 0, .int .i64 0, .int .i64 0, .int .u32 0, .int .i64 0, .int .i64 0], 29, false⟩ := by rw [frH27_ _ (by omega) (Gr.neT gk26_ gH26_T2_ (by decide))]; exact gH26_T2_
        have gH27_PPc : H27_.get (PP) = some ⟨[(.slice pc k cc), .int .i64 0, .int .i64 0, .int .i64 0, .int .i64 0, .slice none 0 0, .slice none 0 0, .int .i64 (-1), .int .u32 0, .int .i64 (-1), .int .i64 0, .int .u32 0, .int .i64 1, .int .i64 0], 29, false⟩ := by rw [frH27_ _ (by omega) (Gr.neT gk26_ gH26_PP (by decide))]; exact gH26_PP
        refine cf_val 79 (.slice (some ⟨H26_.n, 0, none⟩) (k + 1) (unk + 5)) H27_ (by kernel_rfl) ((by kernel_rfl : _ = val2 (aappend T2 26 26 (.slice pc k cc) (.slice (some ⟨H25_.n, 0, none⟩) 1 1) H26_)).trans (by rw [hapH27_]; rfl)) ?_
        refine cf_go 1 ?_
        obtain ⟨H28_, hH28_⟩ : ∃ x : Heap, x = H27_.put (PP) ⟨[Value.slice (some ⟨H26_.n, 0, none⟩) (k + 1) (unk + 5), .int .i64 0, .int .i64 0, .int .i64 0, .int .i64 0, .slice none 0 0, .slice none 0 0, .int .i64 (-1), .int .u32 0, .int .i64 (-1), .int .i64 0, .int .u32 0, .int .i64 1, .int .i64 0], 29, false⟩ := ⟨_, rfl⟩
        have nH28_ : H28_.n = H27_.n := by rw [hH28_]; rfl
        refine cf_skip H28_ (by kernel_rfl) ((by kernel_rfl : _ = skp (astore T2 26 (.pointer (some ⟨PP, 0, none⟩)) (.slice (some ⟨H26_.n, 0, none⟩) (k + 1) (unk + 5)) H27_)).trans (by rw [astore_to gH27_PPc (by kernel_rfl), ← hH28_]; rfl)) ?_
        refine cf_go 6 ?_
        refine cf_see 32 (.int .i64 ((k + 1 : Nat) : Int)) (see_int (x := (IntKind.i64.wrap (((k : Nat) : Int) + 1))) (by kernel_rfl) (w64 (by omega) (by omega) (by omega))) ?_
        refine cf_go 2 ?_
        have gH28_D : H28_.get (D) = some ⟨[Value.slice (some ⟨A1, off1, none⟩) ops.length cap1, .slice (some ⟨A2, off2, none⟩) az.length cap2, .slice (some ⟨A3, off3, none⟩) bs.length cap3, (.slice pt4 outs.length cap4), .int .i64 fl, .bool wr], 24, false⟩ := by rw [hH28_, Heap.get_put, if_neg (by omega)]; exact gH27_Dc
        have gH28_T2_ : H28_.get (T2_) = some ⟨[Value.slice none 0 0, .int .i64 0, .int .i64 0, .int .i64 0, .int .i64 0, .slice none 0 0, .slice none 0 0, .int .i64 0, .int .u32 0, .int .i64 0, .int .i64 0, .int .u32 0, .int .i64 0, .int .i64 0], 29, false⟩ := by rw [hH28_, Heap.get_put, if_neg (by omega)]; exact gH27_T2_c
        have gH28_PP : H28_.get (PP) = some ⟨[Value.slice (some ⟨H26_.n, 0, none⟩) (k + 1) (unk + 5), .int .i64 0, .int .i64 0, .int .i64 0, .int .i64 0, .slice none 0 0, .slice none 0 0, .int .i64 (-1), .int .u32 0, .int .i64 (-1), .int .i64 0, .int .u32 0, .int .i64 1, .int .i64 0], 29, false⟩ := by rw [hH28_]; exact (Heap.get_put _ _ _ _).trans (if_pos rfl)
        have hmk : mkI ops az bs k = (0, (k : Int), 0, 0, (k : Int)) := by unfold mkI; rw [eo, ea, eb]; rw [if_neg (by omega)]
        have hgr9 : Gr H28_ H.n 50 5 (.slice (some ⟨H26_.n, 0, none⟩) (k + 1) (unk + 5)) (k + 1) (iis (mkC ops az bs (k + 1))) := by rw [mkC_succ, hmk, iis_snoc]; exact (Gr.keepX hgrH27_ gH27_PPc gH27_T2_c (by decide) (by omega) (fun b hb1 hb2 hb3 hb4 => by rw [hH28_, Heap.get_put, if_neg (by omega)]))
        refine cf_inv Rr1 (by kernel_rfl) (hRr1 _ ⟨N - (k + 1), by omega, k + 1, _, H28_, rfl, by omega, gH28_D, gH28_T2_, gH28_PP, hgr9, by omega, by omega, by omega, (show Up H.n H H28_ from ⟨by omega, fun b hb => by rw [hH28_, Heap.get_put, if_neg (by omega), uH27_.get _ (by omega), hH26_, Heap.get_push, if_neg (by omega), hH25_, Heap.get_put, if_neg (by omega), hH24_, Heap.get_push, if_neg (by omega), uH1.get _ (by omega)]⟩), ⟨(by kernel_rfl), (by kernel_rfl), (by kernel_rfl), (by kernel_rfl), True.intro⟩, (by kernel_rfl)⟩)
  · skip
    obtain rfl : k = N := by omega
    refine cf_go 2 ?_
    refine cf_mid 138 (cl (cl (cl (cl (cr (cl (cr (cr f9b)))))))) [.next (cr (cl (cl (cl (cr (cl (cr (cr f9b)))))))), .next (cr (cl (cl (cr (cl (cr (cr f9b))))))), .inv Rr1, .blk 0, .next (cr (cr (cr f9b)))] (by kernel_rfl) (by kernel_rfl) (by kernel_rfl) (fun s2 => Kn s2.tm [(1, .pointer (some ⟨D, 0, none⟩)), (2, .pointer (some ⟨T2_, 0, none⟩)), (3, .pointer (some ⟨PP, 0, none⟩)), (4, .int .i64 ((k : Nat) : Int)), (30, .bool false)] ∧ s2.H = H1) ?_ ?_
    · intro Rj2 hRj2
      rcases (by omega : k = ops.length ∨ (k < ops.length ∧ k = az.length) ∨ (k < ops.length ∧ k < az.length ∧ k = bs.length) ∨ (k < ops.length ∧ k < az.length ∧ k < bs.length ∧ k = 30)) with hq | hq | hq | hq
      · skip
        refine cf_go 3 ?_
        refine cf_val 10 ((.slice pt1 ops.length cap1)) H1 (by kernel_rfl) ((by kernel_rfl : _ = val (aload T2 22 (.pointer (some ⟨D, 0, none⟩)) H1) H1).trans (val_of ((aload_at gD).trans (by kernel_rfl)))) ?_
        refine cf_go 2 ?_
        refine cf_see 12 (.bool false) (see_bool (by kernel_rfl) ((decide_eq_false (by omega)) : ((decide (((k : Nat) : Int) < ((ops.length : Nat) : Int)))) = false)) ?_
        refine cf_go 19 ?_
        refine cf_inv Rj2 (by kernel_rfl) (hRj2 _ ⟨⟨(by kernel_rfl), (by kernel_rfl), (by kernel_rfl), (by kernel_rfl), (by kernel_rfl), True.intro⟩, (by kernel_rfl)⟩)
      · skip
        refine cf_go 3 ?_
        refine cf_val 10 ((.slice pt1 ops.length cap1)) H1 (by kernel_rfl) ((by kernel_rfl : _ = val (aload T2 22 (.pointer (some ⟨D, 0, none⟩)) H1) H1).trans (val_of ((aload_at gD).trans (by kernel_rfl)))) ?_
        refine cf_go 2 ?_
        refine cf_see 12 (.bool true) (see_bool (by kernel_rfl) ((decide_eq_true (by omega)) : ((decide (((k : Nat) : Int) < ((ops.length : Nat) : Int)))) = true)) ?_
        refine cf_go 3 ?_
        refine cf_val 16 ((.slice pt2 az.length cap2)) H1 (by kernel_rfl) ((by kernel_rfl : _ = val (aload T2 22 (.pointer (some ⟨D, 1, none⟩)) H1) H1).trans (val_of ((aload_at gD).trans (by kernel_rfl)))) ?_
        refine cf_go 2 ?_
        refine cf_see 18 (.bool false) (see_bool (by kernel_rfl) ((decide_eq_false (by omega)) : ((decide (((k : Nat) : Int) < ((az.length : Nat) : Int)))) = false)) ?_
        refine cf_go 13 ?_
        refine cf_inv Rj2 (by kernel_rfl) (hRj2 _ ⟨⟨(by kernel_rfl), (by kernel_rfl), (by kernel_rfl), (by kernel_rfl), (by kernel_rfl), True.intro⟩, (by kernel_rfl)⟩)
      · skip
        refine cf_go 3 ?_
        refine cf_val 10 ((.slice pt1 ops.length cap1)) H1 (by kernel_rfl) ((by kernel_rfl : _ = val (aload T2 22 (.pointer (some ⟨D, 0, none⟩)) H1) H1).trans (val_of ((aload_at gD).trans (by kernel_rfl)))) ?_
        refine cf_go 2 ?_
        refine cf_see 12 (.bool true) (see_bool (by kernel_rfl) ((decide_eq_true (by omega)) : ((decide (((k : Nat) : Int) < ((ops.length : Nat) : Int)))) = true)) ?_
        refine cf_go 3 ?_
        refine cf_val 16 ((.slice pt2 az.length cap2)) H1 (by kernel_rfl) ((by kernel_rfl : _ = val (aload T2 22 (.pointer (some ⟨D, 1, none⟩)) H1) H1).trans (val_of ((aload_at gD).trans (by kernel_rfl)))) ?_
        refine cf_go 2 ?_
        refine cf_see 18 (.bool true) (see_bool (by kernel_rfl) ((decide_eq_true (by omega)) : ((decide (((k : Nat) : Int) < ((az.length : Nat) : Int)))) = true)) ?_
        refine cf_go 4 ?_
        refine cf_val 23 ((.slice pt3 bs.length cap3)) H1 (by kernel_rfl) ((by kernel_rfl : _ = val (aload T2 22 (.pointer (some ⟨D, 2, none⟩)) H1) H1).trans (val_of ((aload_at gD).trans (by kernel_rfl)))) ?_
        refine cf_go 2 ?_
        refine cf_see 25 (.bool false) (see_bool (by kernel_rfl) ((decide_eq_false (by omega)) : ((decide (((k : Nat) : Int) < ((bs.length : Nat) : Int)))) = false)) ?_
        refine cf_go 6 ?_
        refine cf_inv Rj2 (by kernel_rfl) (hRj2 _ ⟨⟨(by kernel_rfl), (by kernel_rfl), (by kernel_rfl), (by kernel_rfl), (by kernel_rfl), True.intro⟩, (by kernel_rfl)⟩)
      · skip
        refine cf_go 3 ?_
        refine cf_val 10 ((.slice pt1 ops.length cap1)) H1 (by kernel_rfl) ((by kernel_rfl : _ = val (aload T2 22 (.pointer (some ⟨D, 0, none⟩)) H1) H1).trans (val_of ((aload_at gD).trans (by kernel_rfl)))) ?_
        refine cf_go 2 ?_
        refine cf_see 12 (.bool true) (see_bool (by kernel_rfl) ((decide_eq_true (by omega)) : ((decide (((k : Nat) : Int) < ((ops.length : Nat) : Int)))) = true)) ?_
        refine cf_go 3 ?_
        refine cf_val 16 ((.slice pt2 az.length cap2)) H1 (by kernel_rfl) ((by kernel_rfl : _ = val (aload T2 22 (.pointer (some ⟨D, 1, none⟩)) H1) H1).trans (val_of ((aload_at gD).trans (by kernel_rfl)))) ?_
        refine cf_go 2 ?_
        refine cf_see 18 (.bool true) (see_bool (by kernel_rfl) ((decide_eq_true (by omega)) : ((decide (((k : Nat) : Int) < ((az.length : Nat) : Int)))) = true)) ?_
        refine cf_go 4 ?_
        refine cf_val 23 ((.slice pt3 bs.length cap3)) H1 (by kernel_rfl) ((by kernel_rfl : _ = val (aload T2 22 (.pointer (some ⟨D, 2, none⟩)) H1) H1).trans (val_of ((aload_at gD).trans (by kernel_rfl)))) ?_
        refine cf_go 2 ?_
        refine cf_see 25 (.bool true) (see_bool (by kernel_rfl) ((decide_eq_true (by omega)) : ((decide (((k : Nat) : Int) < ((bs.length : Nat) : Int)))) = true)) ?_
        refine cf_go 4 ?_
        refine cf_see 29 (.bool false) (see_bool (by kernel_rfl) ((decide_eq_false (by omega)) : ((decide (((k : Nat) : Int) < 30))) = false)) ?_
        refine cf_go 2 ?_
        refine cf_inv Rj2 (by kernel_rfl) (hRj2 _ ⟨⟨(by kernel_rfl), (by kernel_rfl), (by kernel_rfl), (by kernel_rfl), (by kernel_rfl), True.intro⟩, (by kernel_rfl)⟩)
    · rintro s2 ⟨hkn2, hH2⟩
      refine cf_kn [(1, .pointer (some ⟨D, 0, none⟩)), (2, .pointer (some ⟨T2_, 0, none⟩)), (3, .pointer (some ⟨PP, 0, none⟩)), (4, .int .i64 ((k : Nat) : Int)), (30, .bool false)] hkn2 hH2 fun tm2 => ?_
      refine cf_go 10 ?_
      refine cf_val 82 ((.slice pc k cc)) H1 (by kernel_rfl) ((by kernel_rfl : _ = val (aload T2 26 (.pointer (some ⟨PP, 0, none⟩)) H1) H1).trans (val_of ((aload_at gP).trans (by kernel_rfl)))) ?_
      refine cf_go 2 ?_
      obtain ⟨H29_, hH29_⟩ : ∃ x : Heap, x = H1.put (PP) ⟨[(.slice pc k cc), .int .i64 0, .int .i64 0, .int .i64 0, .int .i64 0, .slice none 0 0, .slice none 0 0, .int .i64 (-1), .int .u32 0, .int .i64 (-1), .int .i64 0, .int .u32 0, .int .i64 1, .int .i64 ((k : Nat) : Int)], 29, false⟩ := ⟨_, rfl⟩
      have nH29_ : H29_.n = H1.n := by rw [hH29_]; rfl
      refine cf_skip H29_ (by kernel_rfl) ((by kernel_rfl : _ = skp (astore T2 3 (.pointer (some ⟨PP, 13, none⟩)) (.int .i64 ((k : Nat) : Int)) H1)).trans (by rw [astore_to gP (by kernel_rfl), ← hH29_]; rfl)) ?_
      refine cf_go 9 ?_
      have gH29_D : H29_.get (D) = some ⟨[(.slice pt1 ops.length cap1), (.slice pt2 az.length cap2), (.slice pt3 bs.length cap3), (.slice pt4 outs.length cap4), .int .i64 fl, .bool wr], 24, false⟩ := by rw [hH29_, Heap.get_put, if_neg (by omega)]; exact gD
      have gH29_T2_ : H29_.get (T2_) = some ⟨[Value.slice none 0 0, .int .i64 0, .int .i64 0, .int .i64 0, .int .i64 0, .slice none 0 0, .slice none 0 0, .int .i64 0, .int .u32 0, .int .i64 0, .int .i64 0, .int .u32 0, .int .i64 0, .int .i64 0], 29, false⟩ := by rw [hH29_, Heap.get_put, if_neg (by omega)]; exact gT
      have gH29_PP : H29_.get (PP) = some ⟨[(.slice pc k cc), .int .i64 0, .int .i64 0, .int .i64 0, .int .i64 0, .slice none 0 0, .slice none 0 0, .int .i64 (-1), .int .u32 0, .int .i64 (-1), .int .i64 0, .int .u32 0, .int .i64 1, .int .i64 ((k : Nat) : Int)], 29, false⟩ := by rw [hH29_]; exact (Heap.get_put _ _ _ _).trans (if_pos rfl)
      have hgc : Gr H29_ H.n 50 5 (.slice pc k cc) k (iis (mkC ops az bs k)) := (Gr.keepX hgr gP gT (by decide) (by omega) (fun b hb1 hb2 hb3 hb4 => by rw [hH29_, Heap.get_put, if_neg (by omega)]))
      obtain ⟨M, hM⟩ : ∃ M, M = (if k = 0 then 0 else min outs.length 6) := ⟨_, rfl⟩
      have hMl : M ≤ outs.length ∧ M ≤ 6 := by rw [hM]; split <;> omega
      refine cf_loop 138 (cl (cl (cr (cl (cr (cr (cr (cr f9b)))))))) [.blk 2, .next (cr (cr (cr (cr (cr f9b)))))] (by kernel_rfl) (by kernel_rfl) (by kernel_rfl) (fun m9 s9 => ∃ (j : Nat) (ov : Value) (H2 : Heap), m9 = M - j ∧ j ≤ M ∧ H2.get D = some ⟨[(.slice pt1 ops.length cap1), (.slice pt2 az.length cap2), (.slice pt3 bs.length cap3), (.slice pt4 outs.length cap4), .int .i64 fl, .bool wr], 24, false⟩ ∧ H2.get T2_ = some ⟨[Value.slice none 0 0, .int .i64 0, .int .i64 0, .int .i64 0, .int .i64 0, .slice none 0 0, .slice none 0 0, .int .i64 0, .int .u32 0, .int .i64 0, .int .i64 0, .int .u32 0, .int .i64 0, .int .i64 0], 29, false⟩ ∧ H2.get PP = some ⟨[(.slice pc k cc), .int .i64 0, .int .i64 0, .int .i64 0, .int .i64 0, ov, .slice none 0 0, .int .i64 (-1), .int .u32 0, .int .i64 (-1), .int .i64 0, .int .u32 0, .int .i64 1, .int .i64 ((k : Nat) : Int)], 29, false⟩ ∧ Gr H2 H.n 50 5 (.slice pc k cc) k (iis (mkC ops az bs k)) ∧ Gr H2 H.n 3 1 ov j ((mkO outs k j).map (Value.int .i64)) ∧ D < H2.n ∧ T2_ < H2.n ∧ PP < H2.n ∧ Up H.n H H2 ∧ Kn s9.tm [(1, .pointer (some ⟨D, 0, none⟩)), (2, .pointer (some ⟨T2_, 0, none⟩)), (3, .pointer (some ⟨PP, 0, none⟩)), (6, .int .i64 ((j : Nat) : Int))] ∧ s9.H = H2) (M) ⟨0, .slice none 0 0, H29_, by omega, by omega, gH29_D, gH29_T2_, gH29_PP, hgc, Gr.nil, by omega, by omega, by omega, (show Up H.n H H29_ from ⟨by omega, fun b hb => by rw [hH29_, Heap.get_put, if_neg (by omega), uH1.get _ (by omega)]⟩), ⟨(by kernel_rfl), (by kernel_rfl), (by kernel_rfl), (by kernel_rfl), True.intro⟩, (by kernel_rfl)⟩ ?_
      rintro m9 s9 ⟨j, ov, H2, hm2, hj, gD2, gT2, gP2, hgc2, hgo, bD2, bT2, bP2, uH2, hkn, hH⟩ Rr3 hRr3
      refine cf_kn [(1, .pointer (some ⟨D, 0, none⟩)), (2, .pointer (some ⟨T2_, 0, none⟩)), (3, .pointer (some ⟨PP, 0, none⟩)), (6, .int .i64 ((j : Nat) : Int))] hkn hH fun tm => ?_
      have nH2 := uH2.n
      obtain ⟨po, co, rfl⟩ := Gr.sl hgo
      by_cases hlt2 : j < M
      · skip
        have hk1 : ¬ k = 0 := by intro h; rw [if_pos h] at hM; omega
        rw [if_neg hk1] at hM
        obtain ⟨y, hy⟩ : ∃ x, outs[j]? = some x := ⟨_, List.getElem?_eq_getElem (by omega)⟩
        have iy := hr4 _ (List.mem_of_getElem? hy)
        simp only [i64B, Bool.and_eq_true, decide_eq_true_eq] at iy
        have ey := getD_at hy
        rcases hN4.at_ with ⟨_, _, h0⟩ | ⟨A4, off4, cq4, cells4, e4, ro4, he4, gA4, hA4, hc4⟩
        · rw [h0] at hy; simp at hy
        obtain ⟨rfl, rfl⟩ : pt4 = some ⟨A4, off4, none⟩ ∧ cap4 = cq4 := by injection he4 with e1 _ e3; exact ⟨e1, e3⟩
        have cy : cells4[off4 + j * 1]? = some (.int .i64 y) := by have hk9 : j < outs.length := (List.getElem?_eq_some_iff.1 hy).1; have := hc4 j hk9; rw [List.getElem?_eq_getElem hk9] at hy; rw [this, Option.some.inj hy]
        refine cf_go 4 ?_
        refine cf_val 86 (.int .i64 ((k : Nat) : Int)) H2 (by kernel_rfl) ((by kernel_rfl : _ = val (aload T2 3 (.pointer (some ⟨PP, 13, none⟩)) H2) H2).trans (val_of ((aload_at gP2).trans (by kernel_rfl)))) ?_
        refine cf_go 1 ?_
        refine cf_see 87 (.bool true) (see_bool (by kernel_rfl) ((decide_eq_true (by omega)) : ((decide (((k : Nat) : Int) > 0))) = true)) ?_
        refine cf_go 3 ?_
        refine cf_val 91 (.slice (some ⟨A4, off4, none⟩) outs.length cap4) H2 (by kernel_rfl) ((by kernel_rfl : _ = val (aload T2 22 (.pointer (some ⟨D, 3, none⟩)) H2) H2).trans (val_of ((aload_at gD2).trans (by kernel_rfl)))) ?_
        refine cf_go 2 ?_
        refine cf_see 93 (.bool true) (see_bool (by kernel_rfl) ((decide_eq_true (by omega)) : ((decide (((j : Nat) : Int) < ((outs.length : Nat) : Int)))) = true)) ?_
        refine cf_go 4 ?_
        refine cf_see 97 (.bool true) (see_bool (by kernel_rfl) ((decide_eq_true (by omega)) : ((decide (((j : Nat) : Int) < 6))) = true)) ?_
        refine cf_go 8 ?_
        refine cf_drawV ((H2.n + 1)) (by kernel_rfl) ?_
        refine aopsV_go 1 (by kernel_rfl) (by kernel_rfl) ?_
        refine aopsV_get 102 ((.slice po j co)) (.pointer (some ⟨PP, 5, none⟩)) (.tmp 101) H2 (by kernel_rfl) (by kernel_rfl) (by kernel_rfl) (by kernel_rfl) ((by kernel_rfl : _ = aload T2 22 (.pointer (some ⟨PP, 5, none⟩)) H2).trans ((aload_at gP2).trans (by kernel_rfl))) (veq_slice _ _ _) (lowB_ptr (by omega)) ((by kernel_rfl : _ = val (aload T2 22 (.pointer (some ⟨PP, 5, none⟩)) H2) H2).trans (val_to ((aload_at gP2).trans (by kernel_rfl)) (by kernel_rfl))) ?_
        refine aopsV_go 1 (by kernel_rfl) (by kernel_rfl) ?_
        refine aopsV_val 104 (.slice (some ⟨A4, off4, none⟩) outs.length cap4) H2 H2 (by kernel_rfl) ((by kernel_rfl : _ = val (aload T2 22 (.pointer (some ⟨D, 3, none⟩)) H2) H2).trans (val_of ((aload_at gD2).trans (by kernel_rfl)))) (by kernel_rfl) (fun _ => Up.refl _) (by kernel_rfl) ?_
        refine aopsV_go 1 (by kernel_rfl) (by kernel_rfl) ?_
        refine aopsV_val 106 (.pointer (some ⟨A4, off4 + j * 1, none⟩)) H2 H2 (by kernel_rfl) ((by kernel_rfl : _ = val (bif (j : Nat).blt outs.length then some (.pointer (some ⟨A4, off4 + j * 1, none⟩)) else none) H2).trans (by rw [show (j : Nat).blt outs.length = true from (by rw [blt_dec]; simp only [decide_eq_true_eq]; omega)]; rfl)) (by kernel_rfl) (fun _ => Up.refl _) (by kernel_rfl) ?_
        have gH2A4 : H2.get (A4) = some ⟨cells4, e4, ro4⟩ := by rw [uH2.get _ (by omega)]; exact gA4
        refine aopsV_val 107 (.int .i64 y) H2 H2 (by kernel_rfl) ((by kernel_rfl : _ = val (aload T2 3 (.pointer (some ⟨A4, off4 + j * 1, none⟩)) H2) H2).trans (val_of ((aload_at gH2A4).trans (aloadC_cellB (n := 1) (by kernel_rfl) (by kernel_rfl) cy)))) (by kernel_rfl) (fun _ => Up.refl _) (by kernel_rfl) ?_
        refine aopsV_go 1 (by kernel_rfl) (by kernel_rfl) ?_
        refine aopsV_val 109 (.int .i64 ((k : Nat) : Int)) H2 H2 (by kernel_rfl) ((by kernel_rfl : _ = val (aload T2 3 (.pointer (some ⟨PP, 13, none⟩)) H2) H2).trans (val_of ((aload_at gP2).trans (by kernel_rfl)))) (by kernel_rfl) (fun _ => Up.refl _) (by kernel_rfl) ?_
        refine aopsV_go 1 (by kernel_rfl) (by kernel_rfl) ?_
        refine aopsV_see 110 (.int .i64 (((k : Nat) : Int) - 1)) (see_int (x := (IntKind.i64.wrap (((k : Nat) : Int) - 1))) (by kernel_rfl) (w64 (by omega) (by omega) (by omega))) ?_
        refine aopsV_ask 111 (.int .i64 (0 + y % ((((k : Nat) : Int) - 1) - 0 + 1))) 12 #[.int .i64 y, .int .i64 0, .int .i64 (((k : Nat) : Int) - 1)] (by kernel_rfl) (by kernel_rfl) (orc12 y 0 (((k : Nat) : Int) - 1) (by simp only [inB, Bool.and_eq_true, decide_eq_true_eq]; omega)) ?_
        refine aopsV_see 111 (.int .i64 (y % ((k : Nat) : Int))) (see_int (x := (0 + y % ((((k : Nat) : Int) - 1) - 0 + 1))) (by kernel_rfl) (by rw [show ((((k : Nat) : Int) - 1) - 0 + 1 : Int) = ((k : Nat) : Int) by omega]; omega)) ?_
        obtain ⟨H30_, hH30_⟩ : ∃ x : Heap, x = H2.push ⟨[Value.int .i64 (y % ((k : Nat) : Int))], 3, false⟩ := ⟨_, rfl⟩
        have nH30_ : H30_.n = H2.n + 1 := by rw [hH30_]; rfl
        refine aopsV_val 112 (.slice (some ⟨H2.n, 0, none⟩) 1 1) H2 H30_ (by kernel_rfl) ((by kernel_rfl : _ = some (Res.val (.slice (some ⟨H2.n, 0, none⟩) 1 1), H2.push ⟨[Value.int .i64 (y % ((k : Nat) : Int))], 3, false⟩)).trans (by rw [← hH30_])) (by kernel_rfl) (calm_no (by kernel_rfl)) (by kernel_rfl) ?_
        have gH30_H2_n : H30_.get (H2.n) = some ⟨[Value.int .i64 (y % ((k : Nat) : Int))], 3, false⟩ := by rw [hH30_]; exact (Heap.get_push _ _ _).trans (if_pos rfl)
        have gk30_ := hgo.keep (H' := H30_) (lo' := H.n) (by omega) (fun b hb1 hb2 => by rw [hH30_, Heap.get_push, if_neg (by omega)])
        have gH30_D : H30_.get (D) = some ⟨[(.slice pt1 ops.length cap1), (.slice pt2 az.length cap2), (.slice pt3 bs.length cap3), .slice (some ⟨A4, off4, none⟩) outs.length cap4, .int .i64 fl, .bool wr], 24, false⟩ := by rw [hH30_, Heap.get_push, if_neg (by omega)]; exact gD2
        have gH30_T2_ : H30_.get (T2_) = some ⟨[Value.slice none 0 0, .int .i64 0, .int .i64 0, .int .i64 0, .int .i64 0, .slice none 0 0, .slice none 0 0, .int .i64 0, .int .u32 0, .int .i64 0, .int .i64 0, .int .u32 0, .int .i64 0, .int .i64 0], 29, false⟩ := by rw [hH30_, Heap.get_push, if_neg (by omega)]; exact gT2
        have gH30_PP : H30_.get (PP) = some ⟨[(.slice pc k cc), .int .i64 0, .int .i64 0, .int .i64 0, .int .i64 0, (.slice po j co), .slice none 0 0, .int .i64 (-1), .int .u32 0, .int .i64 (-1), .int .i64 0, .int .u32 0, .int .i64 1, .int .i64 ((k : Nat) : Int)], 29, false⟩ := by rw [hH30_, Heap.get_push, if_neg (by omega)]; exact gP2
        obtain ⟨ovH31_, H31_, hapH31_, hgrH31_, uH31_, frH31_, nH31_, hvH31_⟩ := aappend_gr (T := T2) (st := 22) (xt := 22) (e := 3) (xd := .slice 3) (s0 := 0) (by_ := 7) (z := .int .i64 0) (by kernel_rfl) (by kernel_rfl) rfl (by kernel_rfl) (by kernel_rfl) (by kernel_rfl) (lo := H.n) gk30_ (x := .slice (some ⟨H2.n, 0, none⟩) 1 1) (asrc_blk (l := [Value.int .i64 (y % ((k : Nat) : Int))]) gH30_H2_n rfl rfl) rfl rfl (by omega) (Gr.ne hgo (by omega)) (by omega) (by omega)
        subst hvH31_
        have gH31_Dc : H31_.get (D) = some ⟨[(.slice pt1 ops.length cap1), (.slice pt2 az.length cap2), (.slice pt3 bs.length cap3), .slice (some ⟨A4, off4, none⟩) outs.length cap4, .int .i64 fl, .bool wr], 24, false⟩ := by rw [frH31_ _ (by omega) (Gr.neT gk30_ gH30_D (by decide))]; exact gH30_D
        have gH31_T2_c : H31_.get (T2_) = some ⟨[Value.slice none 0 0, .int .i64 0, .int .i64 0, .int .i64 0, .int .i64 0, .slice none 0 0, .slice none 0 0, .int .i64 0, .int .u32 0, .int .i64 0, .int .i64 0, .int .u32 0, .int .i64 0, .int .i64 0], 29, false⟩ := by rw [frH31_ _ (by omega) (Gr.neT gk30_ gH30_T2_ (by decide))]; exact gH30_T2_
        have gH31_PPc : H31_.get (PP) = some ⟨[(.slice pc k cc), .int .i64 0, .int .i64 0, .int .i64 0, .int .i64 0, (.slice po j co), .slice none 0 0, .int .i64 (-1), .int .u32 0, .int .i64 (-1), .int .i64 0, .int .u32 0, .int .i64 1, .int .i64 ((k : Nat) : Int)], 29, false⟩ := by rw [frH31_ _ (by omega) (Gr.neT gk30_ gH30_PP (by decide))]; exact gH30_PP
        have goH31_50 := Gr.other (hgc2.keep (H' := H30_) (lo' := H.n) (by omega) (fun b hb1 hb2 => by rw [hH30_, Heap.get_push, if_neg (by omega)])) gk30_ (by decide) (H' := H31_) (by omega) frH31_
        refine aopsV_val 113 (.slice (some ⟨H30_.n, 0, none⟩) (j + 1) (unk + 1)) H30_ H31_ (by kernel_rfl) ((by kernel_rfl : _ = val2 (aappend T2 22 22 (.slice po j co) (.slice (some ⟨H2.n, 0, none⟩) 1 1) H30_)).trans (by rw [hapH31_]; rfl)) (by kernel_rfl) (calm_no (by kernel_rfl)) (by kernel_rfl) ?_
        refine aopsV_go 1 (by kernel_rfl) (by kernel_rfl) ?_
        obtain ⟨H32_, hH32_⟩ : ∃ x : Heap, x = H31_.put (PP) ⟨[(.slice pc k cc), .int .i64 0, .int .i64 0, .int .i64 0, .int .i64 0, .slice (some ⟨H30_.n, 0, none⟩) (j + 1) (unk + 1), .slice none 0 0, .int .i64 (-1), .int .u32 0, .int .i64 (-1), .int .i64 0, .int .u32 0, .int .i64 1, .int .i64 ((k : Nat) : Int)], 29, false⟩ := ⟨_, rfl⟩
        have nH32_ : H32_.n = H31_.n := by rw [hH32_]; rfl
        refine aopsV_skip H31_ H32_ (by kernel_rfl) (by kernel_rfl) (by kernel_rfl) ((by kernel_rfl : _ = skp (astore T2 22 (.pointer (some ⟨PP, 5, none⟩)) (.slice (some ⟨H30_.n, 0, none⟩) (j + 1) (unk + 1)) H31_)).trans (by rw [astore_to gH31_PPc (by kernel_rfl), ← hH32_]; rfl)) (by kernel_rfl) (calm_no (by kernel_rfl)) ?_
        refine aopsV_end (by kernel_rfl) ?_
        refine cf_go 5 ?_
        refine cf_see 100 (.int .i64 ((j + 1 : Nat) : Int)) (see_int (x := (IntKind.i64.wrap (((j : Nat) : Int) + 1))) (by kernel_rfl) (w64 (by omega) (by omega) (by omega))) ?_
        refine cf_go 2 ?_
        have gH32_D : H32_.get (D) = some ⟨[(.slice pt1 ops.length cap1), (.slice pt2 az.length cap2), (.slice pt3 bs.length cap3), .slice (some ⟨A4, off4, none⟩) outs.length cap4, .int .i64 fl, .bool wr], 24, false⟩ := by rw [hH32_, Heap.get_put, if_neg (by omega)]; exact gH31_Dc
        have gH32_T2_ : H32_.get (T2_) = some ⟨[Value.slice none 0 0, .int .i64 0, .int .i64 0, .int .i64 0, .int .i64 0, .slice none 0 0, .slice none 0 0, .int .i64 0, .int .u32 0, .int .i64 0, .int .i64 0, .int .u32 0, .int .i64 0, .int .i64 0], 29, false⟩ := by rw [hH32_, Heap.get_put, if_neg (by omega)]; exact gH31_T2_c
        have gH32_PP : H32_.get (PP) = some ⟨[(.slice pc k cc), .int .i64 0, .int .i64 0, .int .i64 0, .int .i64 0, .slice (some ⟨H30_.n, 0, none⟩) (j + 1) (unk + 1), .slice none 0 0, .int .i64 (-1), .int .u32 0, .int .i64 (-1), .int .i64 0, .int .u32 0, .int .i64 1, .int .i64 ((k : Nat) : Int)], 29, false⟩ := by rw [hH32_]; exact (Heap.get_put _ _ _ _).trans (if_pos rfl)
        have hmo : mkO outs k (j + 1) = mkO outs k j ++ [y % (k : Int)] := by unfold mkO; rw [List.take_add_one, hy]; simp
        have hml : (mkO outs k j).length = j := by unfold mkO; simp; omega
        have hgr9 : Gr H32_ H.n 3 1 (.slice (some ⟨H30_.n, 0, none⟩) (j + 1) (unk + 1)) (j + 1) ((mkO outs k (j + 1)).map (Value.int .i64)) := by rw [hmo, List.map_append]; exact (Gr.keepX hgrH31_ gH31_PPc gH31_T2_c (by decide) (by omega) (fun b hb1 hb2 hb3 hb4 => by rw [hH32_, Heap.get_put, if_neg (by omega)]))
        refine cf_inv Rr3 (by kernel_rfl) (hRr3 _ ⟨M - (j + 1), by omega, j + 1, _, H32_, rfl, by omega, gH32_D, gH32_T2_, gH32_PP, (Gr.keepX goH31_50 gH31_PPc gH31_T2_c (by decide) (by omega) (fun b hb1 hb2 hb3 hb4 => by rw [hH32_, Heap.get_put, if_neg (by omega)])), hgr9, by omega, by omega, by omega, (show Up H.n H H32_ from ⟨by omega, fun b hb => by rw [hH32_, Heap.get_put, if_neg (by omega), uH31_.get _ (by omega), hH30_, Heap.get_push, if_neg (by omega), uH2.get _ (by omega)]⟩), ⟨(by kernel_rfl), (by kernel_rfl), (by kernel_rfl), (by kernel_rfl), True.intro⟩, (by kernel_rfl)⟩)
      · skip
        obtain rfl : j = M := by omega
        rcases (by revert hM; split <;> omega : k = 0 ∨ (k ≠ 0 ∧ j = outs.length) ∨ (k ≠ 0 ∧ j < outs.length ∧ j = 6)) with hz | hz | hz
        · skip
          refine cf_go 4 ?_
          refine cf_val 86 (.int .i64 ((k : Nat) : Int)) H2 (by kernel_rfl) ((by kernel_rfl : _ = val (aload T2 3 (.pointer (some ⟨PP, 13, none⟩)) H2) H2).trans (val_of ((aload_at gP2).trans (by kernel_rfl)))) ?_
          refine cf_go 1 ?_
          refine cf_see 87 (.bool false) (see_bool (by kernel_rfl) ((decide_eq_false (by omega)) : ((decide (((k : Nat) : Int) > 0))) = false)) ?_
          refine cf_go 23 ?_
          refine cf_val 116 (.int .i64 ((k : Nat) : Int)) H2 (by kernel_rfl) ((by kernel_rfl : _ = val (aload T2 3 (.pointer (some ⟨PP, 13, none⟩)) H2) H2).trans (val_of ((aload_at gP2).trans (by kernel_rfl)))) ?_
          refine cf_go 1 ?_
          refine cf_see 117 (.bool false) (see_bool (by kernel_rfl) ((decide_eq_false (by omega)) : ((decide (((k : Nat) : Int) > 0))) = false)) ?_
          refine cf_go 15 ?_
          refine cf_val 132 (.bool wr) H2 (by kernel_rfl) ((by kernel_rfl : _ = val (aload T2 4 (.pointer (some ⟨D, 5, none⟩)) H2) H2).trans (val_of ((aload_at gD2).trans (by kernel_rfl)))) ?_
          refine cf_go 2 ?_
          rcases Bool.eq_false_or_eq_true (wr) with hc1 | hc1
          · skip
            refine cf_see 132 (.bool true) (see_bool (by kernel_rfl) hc1) ?_
            refine cf_go 3 ?_
            refine cf_val 134 (.int .i64 ((k : Nat) : Int)) H2 (by kernel_rfl) ((by kernel_rfl : _ = val (aload T2 3 (.pointer (some ⟨PP, 13, none⟩)) H2) H2).trans (val_of ((aload_at gP2).trans (by kernel_rfl)))) ?_
            refine cf_go 1 ?_
            refine cf_see 135 (.int .i64 ((k + 1 : Nat) : Int)) (see_int (x := (IntKind.i64.wrap (((k : Nat) : Int) + 1))) (by kernel_rfl) (w64 (by omega) (by omega) (by omega))) ?_
            refine cf_go 1 ?_
            obtain ⟨H33_, hH33_⟩ : ∃ x : Heap, x = H2.put (PP) ⟨[(.slice pc k cc), .int .i64 0, .int .i64 0, .int .i64 0, .int .i64 0, (.slice po j co), .slice none 0 0, .int .i64 (-1), .int .u32 0, .int .i64 (-1), .int .i64 0, .int .u32 0, .int .i64 1, .int .i64 ((k + 1 : Nat) : Int)], 29, false⟩ := ⟨_, rfl⟩
            have nH33_ : H33_.n = H2.n := by rw [hH33_]; rfl
            refine cf_skip H33_ (by kernel_rfl) ((by kernel_rfl : _ = skp (astore T2 3 (.pointer (some ⟨PP, 13, none⟩)) (.int .i64 ((k + 1 : Nat) : Int)) H2)).trans (by rw [astore_to gP2 (by kernel_rfl), ← hH33_]; rfl)) ?_
            refine cf_go 4 ?_
            have gH33_PP : H33_.get (PP) = some ⟨[(.slice pc k cc), .int .i64 0, .int .i64 0, .int .i64 0, .int .i64 0, (.slice po j co), .slice none 0 0, .int .i64 (-1), .int .u32 0, .int .i64 (-1), .int .i64 0, .int .u32 0, .int .i64 1, .int .i64 ((k + 1 : Nat) : Int)], 29, false⟩ := by rw [hH33_]; exact (Heap.get_put _ _ _ _).trans (if_pos rfl)
            refine cf_val 137 (.agg #[(.slice pc k cc), .int .i64 0, .int .i64 0, .int .i64 0, .int .i64 0, (.slice po j co), .slice none 0 0, .int .i64 (-1), .int .u32 0, .int .i64 (-1), .int .i64 0, .int .u32 0, .int .i64 1, .int .i64 ((k + 1 : Nat) : Int)]) H33_ (by kernel_rfl) ((by kernel_rfl : _ = val (aload T2 29 (.pointer (some ⟨PP, 0, none⟩)) H33_) H33_).trans (val_of ((aload_at gH33_PP).trans (by kernel_rfl)))) ?_
            have gH33_T2_ : H33_.get (T2_) = some ⟨[Value.slice none 0 0, .int .i64 0, .int .i64 0, .int .i64 0, .int .i64 0, .slice none 0 0, .slice none 0 0, .int .i64 0, .int .u32 0, .int .i64 0, .int .i64 0, .int .u32 0, .int .i64 0, .int .i64 0], 29, false⟩ := by rw [hH33_, Heap.get_put, if_neg (by omega)]; exact gT2
            obtain ⟨H34_, hH34_⟩ : ∃ x : Heap, x = H33_.put (T2_) ⟨[(.slice pc k cc), .int .i64 0, .int .i64 0, .int .i64 0, .int .i64 0, (.slice po j co), .slice none 0 0, .int .i64 (-1), .int .u32 0, .int .i64 (-1), .int .i64 0, .int .u32 0, .int .i64 1, .int .i64 ((k + 1 : Nat) : Int)], 29, false⟩ := ⟨_, rfl⟩
            have nH34_ : H34_.n = H33_.n := by rw [hH34_]; rfl
            refine cf_skip H34_ (by kernel_rfl) ((by kernel_rfl : _ = skp (astore T2 29 (.pointer (some ⟨T2_, 0, none⟩)) (.agg #[(.slice pc k cc), .int .i64 0, .int .i64 0, .int .i64 0, .int .i64 0, (.slice po j co), .slice none 0 0, .int .i64 (-1), .int .u32 0, .int .i64 (-1), .int .i64 0, .int .u32 0, .int .i64 1, .int .i64 ((k + 1 : Nat) : Int)]) H33_)).trans (by rw [astore_to gH33_T2_ (by kernel_rfl), ← hH34_]; rfl)) ?_
            refine cf_go 3 ?_
            have gH34_T2_ : H34_.get (T2_) = some ⟨[(.slice pc k cc), .int .i64 0, .int .i64 0, .int .i64 0, .int .i64 0, (.slice po j co), .slice none 0 0, .int .i64 (-1), .int .u32 0, .int .i64 (-1), .int .i64 0, .int .u32 0, .int .i64 1, .int .i64 ((k + 1 : Nat) : Int)], 29, false⟩ := by rw [hH34_]; exact (Heap.get_put _ _ _ _).trans (if_pos rfl)
            have lc : (mkC ops az bs k).length = k := mkC_len ..
            have lo : (mkO outs k j).length = j := by unfold mkO; simp; omega
            have eN : mkN ops az bs = k := by unfold mkN; omega
            have eM : mkM outs k = j := hM.symm
            have eF : mkF fl k = (-1) := by unfold mkF; rw [if_neg (by omega)]
            rw [eN, eM, eF]
            refine cf_end (.agg #[(.slice pc k cc), .int .i64 0, .int .i64 0, .int .i64 0, .int .i64 0, (.slice po j co), .slice none 0 0, .int .i64 (-1), .int .u32 0, .int .i64 (-1), .int .i64 0, .int .u32 0, .int .i64 1, .int .i64 ((k + 1 : Nat) : Int)]) H34_ (by kernel_rfl) (ares_cell 2 29 (.pointer (some ⟨T2_, 0, none⟩)) H34_ (by kernel_rfl) (by kernel_rfl) (by kernel_rfl) ((aload_at gH34_T2_).trans (by kernel_rfl))) (by kernel_rfl) ?_
            exact ⟨pc, cc, po, co, by rw [lc, lo]; unfold mkW; first | rfl | (rw [if_pos hc1]; rfl) | (rw [if_neg (by rw [hc1]; decide)]; rfl), by rw [lc]; exact (Gr.keepX hgc2 gP2 gT2 (by decide) (by omega) (fun b hb1 hb2 hb3 hb4 => by rw [hH34_, Heap.get_put, if_neg (by omega), hH33_, Heap.get_put, if_neg (by omega)])), by rw [lo]; exact (Gr.keepX hgo gP2 gT2 (by decide) (by omega) (fun b hb1 hb2 hb3 hb4 => by rw [hH34_, Heap.get_put, if_neg (by omega), hH33_, Heap.get_put, if_neg (by omega)])), (show Up H.n H H34_ from ⟨by omega, fun b hb => by rw [hH34_, Heap.get_put, if_neg (by omega), hH33_, Heap.get_put, if_neg (by omega), uH2.get _ (by omega)]⟩)⟩
          · skip
            refine cf_see 132 (.bool false) (see_bool (by kernel_rfl) hc1) ?_
            refine cf_go 5 ?_
            refine cf_val 137 (.agg #[(.slice pc k cc), .int .i64 0, .int .i64 0, .int .i64 0, .int .i64 0, (.slice po j co), .slice none 0 0, .int .i64 (-1), .int .u32 0, .int .i64 (-1), .int .i64 0, .int .u32 0, .int .i64 1, .int .i64 ((k : Nat) : Int)]) H2 (by kernel_rfl) ((by kernel_rfl : _ = val (aload T2 29 (.pointer (some ⟨PP, 0, none⟩)) H2) H2).trans (val_of ((aload_at gP2).trans (by kernel_rfl)))) ?_
            obtain ⟨H35_, hH35_⟩ : ∃ x : Heap, x = H2.put (T2_) ⟨[(.slice pc k cc), .int .i64 0, .int .i64 0, .int .i64 0, .int .i64 0, (.slice po j co), .slice none 0 0, .int .i64 (-1), .int .u32 0, .int .i64 (-1), .int .i64 0, .int .u32 0, .int .i64 1, .int .i64 ((k : Nat) : Int)], 29, false⟩ := ⟨_, rfl⟩
            have nH35_ : H35_.n = H2.n := by rw [hH35_]; rfl
            refine cf_skip H35_ (by kernel_rfl) ((by kernel_rfl : _ = skp (astore T2 29 (.pointer (some ⟨T2_, 0, none⟩)) (.agg #[(.slice pc k cc), .int .i64 0, .int .i64 0, .int .i64 0, .int .i64 0, (.slice po j co), .slice none 0 0, .int .i64 (-1), .int .u32 0, .int .i64 (-1), .int .i64 0, .int .u32 0, .int .i64 1, .int .i64 ((k : Nat) : Int)]) H2)).trans (by rw [astore_to gT2 (by kernel_rfl), ← hH35_]; rfl)) ?_
            refine cf_go 3 ?_
            have gH35_T2_ : H35_.get (T2_) = some ⟨[(.slice pc k cc), .int .i64 0, .int .i64 0, .int .i64 0, .int .i64 0, (.slice po j co), .slice none 0 0, .int .i64 (-1), .int .u32 0, .int .i64 (-1), .int .i64 0, .int .u32 0, .int .i64 1, .int .i64 ((k : Nat) : Int)], 29, false⟩ := by rw [hH35_]; exact (Heap.get_put _ _ _ _).trans (if_pos rfl)
            have lc : (mkC ops az bs k).length = k := mkC_len ..
            have lo : (mkO outs k j).length = j := by unfold mkO; simp; omega
            have eN : mkN ops az bs = k := by unfold mkN; omega
            have eM : mkM outs k = j := hM.symm
            have eF : mkF fl k = (-1) := by unfold mkF; rw [if_neg (by omega)]
            rw [eN, eM, eF]
            refine cf_end (.agg #[(.slice pc k cc), .int .i64 0, .int .i64 0, .int .i64 0, .int .i64 0, (.slice po j co), .slice none 0 0, .int .i64 (-1), .int .u32 0, .int .i64 (-1), .int .i64 0, .int .u32 0, .int .i64 1, .int .i64 ((k : Nat) : Int)]) H35_ (by kernel_rfl) (ares_cell 2 29 (.pointer (some ⟨T2_, 0, none⟩)) H35_ (by kernel_rfl) (by kernel_rfl) (by kernel_rfl) ((aload_at gH35_T2_).trans (by kernel_rfl))) (by kernel_rfl) ?_
            exact ⟨pc, cc, po, co, by rw [lc, lo]; unfold mkW; first | rfl | (rw [if_pos hc1]; rfl) | (rw [if_neg (by rw [hc1]; decide)]; rfl), by rw [lc]; exact (Gr.keepX hgc2 gP2 gT2 (by decide) (by omega) (fun b hb1 hb2 hb3 hb4 => by rw [hH35_, Heap.get_put, if_neg (by omega)])), by rw [lo]; exact (Gr.keepX hgo gP2 gT2 (by decide) (by omega) (fun b hb1 hb2 hb3 hb4 => by rw [hH35_, Heap.get_put, if_neg (by omega)])), (show Up H.n H H35_ from ⟨by omega, fun b hb => by rw [hH35_, Heap.get_put, if_neg (by omega), uH2.get _ (by omega)]⟩)⟩
        · skip
          by_cases hfl : Int.tmod fl 2 = 0
          · skip
            refine cf_go 4 ?_
            refine cf_val 86 (.int .i64 ((k : Nat) : Int)) H2 (by kernel_rfl) ((by kernel_rfl : _ = val (aload T2 3 (.pointer (some ⟨PP, 13, none⟩)) H2) H2).trans (val_of ((aload_at gP2).trans (by kernel_rfl)))) ?_
            refine cf_go 1 ?_
            refine cf_see 87 (.bool true) (see_bool (by kernel_rfl) ((decide_eq_true (by omega)) : ((decide (((k : Nat) : Int) > 0))) = true)) ?_
            refine cf_go 3 ?_
            refine cf_val 91 ((.slice pt4 outs.length cap4)) H2 (by kernel_rfl) ((by kernel_rfl : _ = val (aload T2 22 (.pointer (some ⟨D, 3, none⟩)) H2) H2).trans (val_of ((aload_at gD2).trans (by kernel_rfl)))) ?_
            refine cf_go 2 ?_
            refine cf_see 93 (.bool false) (see_bool (by kernel_rfl) ((decide_eq_false (by omega)) : ((decide (((j : Nat) : Int) < ((outs.length : Nat) : Int)))) = false)) ?_
            refine cf_go 17 ?_
            refine cf_val 116 (.int .i64 ((k : Nat) : Int)) H2 (by kernel_rfl) ((by kernel_rfl : _ = val (aload T2 3 (.pointer (some ⟨PP, 13, none⟩)) H2) H2).trans (val_of ((aload_at gP2).trans (by kernel_rfl)))) ?_
            refine cf_go 1 ?_
            refine cf_see 117 (.bool true) (see_bool (by kernel_rfl) ((decide_eq_true (by omega)) : ((decide (((k : Nat) : Int) > 0))) = true)) ?_
            refine cf_go 2 ?_
            refine cf_val 120 (.int .i64 fl) H2 (by kernel_rfl) ((by kernel_rfl : _ = val (aload T2 3 (.pointer (some ⟨D, 4, none⟩)) H2) H2).trans (val_of ((aload_at gD2).trans (by kernel_rfl)))) ?_
            refine cf_go 2 ?_
            refine cf_see 122 (.bool true) (see_bool (by kernel_rfl) ((beq_iff_eq.2 hfl) : ((((Int.tmod fl 2) : Int) == 0)) = true)) ?_
            refine cf_go 6 ?_
            refine cf_val 125 (.int .i64 fl) H2 (by kernel_rfl) ((by kernel_rfl : _ = val (aload T2 3 (.pointer (some ⟨D, 4, none⟩)) H2) H2).trans (val_of ((aload_at gD2).trans (by kernel_rfl)))) ?_
            refine cf_go 1 ?_
            refine cf_val 127 (.int .i64 ((k : Nat) : Int)) H2 (by kernel_rfl) ((by kernel_rfl : _ = val (aload T2 3 (.pointer (some ⟨PP, 13, none⟩)) H2) H2).trans (val_of ((aload_at gP2).trans (by kernel_rfl)))) ?_
            refine cf_go 1 ?_
            refine cf_see 128 (.int .i64 (((k : Nat) : Int) - 1)) (see_int (x := (IntKind.i64.wrap (((k : Nat) : Int) - 1))) (by kernel_rfl) (w64 (by omega) (by omega) (by omega))) ?_
            refine cf_ask 129 (.int .i64 (0 + fl % ((((k : Nat) : Int) - 1) - 0 + 1))) 12 #[.int .i64 fl, .int .i64 0, .int .i64 (((k : Nat) : Int) - 1)] (by kernel_rfl) (by kernel_rfl) (orc12 fl 0 (((k : Nat) : Int) - 1) (by simp only [inB, Bool.and_eq_true, decide_eq_true_eq]; omega)) ?_
            refine cf_see 129 (.int .i64 (fl % ((k : Nat) : Int))) (see_int (x := (0 + fl % ((((k : Nat) : Int) - 1) - 0 + 1))) (by kernel_rfl) (by rw [show ((((k : Nat) : Int) - 1) - 0 + 1 : Int) = ((k : Nat) : Int) by omega]; omega)) ?_
            refine cf_go 1 ?_
            obtain ⟨H36_, hH36_⟩ : ∃ x : Heap, x = H2.put (PP) ⟨[(.slice pc k cc), .int .i64 0, .int .i64 0, .int .i64 0, .int .i64 0, (.slice po j co), .slice none 0 0, .int .i64 (fl % ((k : Nat) : Int)), .int .u32 0, .int .i64 (-1), .int .i64 0, .int .u32 0, .int .i64 1, .int .i64 ((k : Nat) : Int)], 29, false⟩ := ⟨_, rfl⟩
            have nH36_ : H36_.n = H2.n := by rw [hH36_]; rfl
            refine cf_skip H36_ (by kernel_rfl) ((by kernel_rfl : _ = skp (astore T2 3 (.pointer (some ⟨PP, 7, none⟩)) (.int .i64 (fl % ((k : Nat) : Int))) H2)).trans (by rw [astore_to gP2 (by kernel_rfl), ← hH36_]; rfl)) ?_
            refine cf_go 6 ?_
            have gH36_D : H36_.get (D) = some ⟨[(.slice pt1 ops.length cap1), (.slice pt2 az.length cap2), (.slice pt3 bs.length cap3), (.slice pt4 outs.length cap4), .int .i64 fl, .bool wr], 24, false⟩ := by rw [hH36_, Heap.get_put, if_neg (by omega)]; exact gD2
            refine cf_val 132 (.bool wr) H36_ (by kernel_rfl) ((by kernel_rfl : _ = val (aload T2 4 (.pointer (some ⟨D, 5, none⟩)) H36_) H36_).trans (val_of ((aload_at gH36_D).trans (by kernel_rfl)))) ?_
            refine cf_go 2 ?_
            rcases Bool.eq_false_or_eq_true (wr) with hc2 | hc2
            · skip
              refine cf_see 132 (.bool true) (see_bool (by kernel_rfl) hc2) ?_
              refine cf_go 3 ?_
              have gH36_PP : H36_.get (PP) = some ⟨[(.slice pc k cc), .int .i64 0, .int .i64 0, .int .i64 0, .int .i64 0, (.slice po j co), .slice none 0 0, .int .i64 (fl % ((k : Nat) : Int)), .int .u32 0, .int .i64 (-1), .int .i64 0, .int .u32 0, .int .i64 1, .int .i64 ((k : Nat) : Int)], 29, false⟩ := by rw [hH36_]; exact (Heap.get_put _ _ _ _).trans (if_pos rfl)
              refine cf_val 134 (.int .i64 ((k : Nat) : Int)) H36_ (by kernel_rfl) ((by kernel_rfl : _ = val (aload T2 3 (.pointer (some ⟨PP, 13, none⟩)) H36_) H36_).trans (val_of ((aload_at gH36_PP).trans (by kernel_rfl)))) ?_
              refine cf_go 1 ?_
              refine cf_see 135 (.int .i64 ((k + 1 : Nat) : Int)) (see_int (x := (IntKind.i64.wrap (((k : Nat) : Int) + 1))) (by kernel_rfl) (w64 (by omega) (by omega) (by omega))) ?_
              refine cf_go 1 ?_
              obtain ⟨H37_, hH37_⟩ : ∃ x : Heap, x = H36_.put (PP) ⟨[(.slice pc k cc), .int .i64 0, .int .i64 0, .int .i64 0, .int .i64 0, (.slice po j co), .slice none 0 0, .int .i64 (fl % ((k : Nat) : Int)), .int .u32 0, .int .i64 (-1), .int .i64 0, .int .u32 0, .int .i64 1, .int .i64 ((k + 1 : Nat) : Int)], 29, false⟩ := ⟨_, rfl⟩
              have nH37_ : H37_.n = H36_.n := by rw [hH37_]; rfl
              refine cf_skip H37_ (by kernel_rfl) ((by kernel_rfl : _ = skp (astore T2 3 (.pointer (some ⟨PP, 13, none⟩)) (.int .i64 ((k + 1 : Nat) : Int)) H36_)).trans (by rw [astore_to gH36_PP (by kernel_rfl), ← hH37_]; rfl)) ?_
              refine cf_go 4 ?_
              have gH37_PP : H37_.get (PP) = some ⟨[(.slice pc k cc), .int .i64 0, .int .i64 0, .int .i64 0, .int .i64 0, (.slice po j co), .slice none 0 0, .int .i64 (fl % ((k : Nat) : Int)), .int .u32 0, .int .i64 (-1), .int .i64 0, .int .u32 0, .int .i64 1, .int .i64 ((k + 1 : Nat) : Int)], 29, false⟩ := by rw [hH37_]; exact (Heap.get_put _ _ _ _).trans (if_pos rfl)
              refine cf_val 137 (.agg #[(.slice pc k cc), .int .i64 0, .int .i64 0, .int .i64 0, .int .i64 0, (.slice po j co), .slice none 0 0, .int .i64 (fl % ((k : Nat) : Int)), .int .u32 0, .int .i64 (-1), .int .i64 0, .int .u32 0, .int .i64 1, .int .i64 ((k + 1 : Nat) : Int)]) H37_ (by kernel_rfl) ((by kernel_rfl : _ = val (aload T2 29 (.pointer (some ⟨PP, 0, none⟩)) H37_) H37_).trans (val_of ((aload_at gH37_PP).trans (by kernel_rfl)))) ?_
              have gH37_T2_ : H37_.get (T2_) = some ⟨[Value.slice none 0 0, .int .i64 0, .int .i64 0, .int .i64 0, .int .i64 0, .slice none 0 0, .slice none 0 0, .int .i64 0, .int .u32 0, .int .i64 0, .int .i64 0, .int .u32 0, .int .i64 0, .int .i64 0], 29, false⟩ := by rw [hH37_, Heap.get_put, if_neg (by omega)]; rw [hH36_, Heap.get_put, if_neg (by omega)]; exact gT2
              obtain ⟨H38_, hH38_⟩ : ∃ x : Heap, x = H37_.put (T2_) ⟨[(.slice pc k cc), .int .i64 0, .int .i64 0, .int .i64 0, .int .i64 0, (.slice po j co), .slice none 0 0, .int .i64 (fl % ((k : Nat) : Int)), .int .u32 0, .int .i64 (-1), .int .i64 0, .int .u32 0, .int .i64 1, .int .i64 ((k + 1 : Nat) : Int)], 29, false⟩ := ⟨_, rfl⟩
              have nH38_ : H38_.n = H37_.n := by rw [hH38_]; rfl
              refine cf_skip H38_ (by kernel_rfl) ((by kernel_rfl : _ = skp (astore T2 29 (.pointer (some ⟨T2_, 0, none⟩)) (.agg #[(.slice pc k cc), .int .i64 0, .int .i64 0, .int .i64 0, .int .i64 0, (.slice po j co), .slice none 0 0, .int .i64 (fl % ((k : Nat) : Int)), .int .u32 0, .int .i64 (-1), .int .i64 0, .int .u32 0, .int .i64 1, .int .i64 ((k + 1 : Nat) : Int)]) H37_)).trans (by rw [astore_to gH37_T2_ (by kernel_rfl), ← hH38_]; rfl)) ?_
              refine cf_go 3 ?_
              have gH38_T2_ : H38_.get (T2_) = some ⟨[(.slice pc k cc), .int .i64 0, .int .i64 0, .int .i64 0, .int .i64 0, (.slice po j co), .slice none 0 0, .int .i64 (fl % ((k : Nat) : Int)), .int .u32 0, .int .i64 (-1), .int .i64 0, .int .u32 0, .int .i64 1, .int .i64 ((k + 1 : Nat) : Int)], 29, false⟩ := by rw [hH38_]; exact (Heap.get_put _ _ _ _).trans (if_pos rfl)
              have lc : (mkC ops az bs k).length = k := mkC_len ..
              have lo : (mkO outs k j).length = j := by unfold mkO; simp; omega
              have eN : mkN ops az bs = k := by unfold mkN; omega
              have eM : mkM outs k = j := hM.symm
              have eF : mkF fl k = fl % (k : Int) := by unfold mkF; rw [if_pos (by omega)]
              rw [eN, eM, eF]
              refine cf_end (.agg #[(.slice pc k cc), .int .i64 0, .int .i64 0, .int .i64 0, .int .i64 0, (.slice po j co), .slice none 0 0, .int .i64 (fl % ((k : Nat) : Int)), .int .u32 0, .int .i64 (-1), .int .i64 0, .int .u32 0, .int .i64 1, .int .i64 ((k + 1 : Nat) : Int)]) H38_ (by kernel_rfl) (ares_cell 2 29 (.pointer (some ⟨T2_, 0, none⟩)) H38_ (by kernel_rfl) (by kernel_rfl) (by kernel_rfl) ((aload_at gH38_T2_).trans (by kernel_rfl))) (by kernel_rfl) ?_
              exact ⟨pc, cc, po, co, by rw [lc, lo]; unfold mkW; first | rfl | (rw [if_pos hc2]; rfl) | (rw [if_neg (by rw [hc2]; decide)]; rfl), by rw [lc]; exact (Gr.keepX hgc2 gP2 gT2 (by decide) (by omega) (fun b hb1 hb2 hb3 hb4 => by rw [hH38_, Heap.get_put, if_neg (by omega), hH37_, Heap.get_put, if_neg (by omega), hH36_, Heap.get_put, if_neg (by omega)])), by rw [lo]; exact (Gr.keepX hgo gP2 gT2 (by decide) (by omega) (fun b hb1 hb2 hb3 hb4 => by rw [hH38_, Heap.get_put, if_neg (by omega), hH37_, Heap.get_put, if_neg (by omega), hH36_, Heap.get_put, if_neg (by omega)])), (show Up H.n H H38_ from ⟨by omega, fun b hb => by rw [hH38_, Heap.get_put, if_neg (by omega), hH37_, Heap.get_put, if_neg (by omega), hH36_, Heap.get_put, if_neg (by omega), uH2.get _ (by omega)]⟩)⟩
            · skip
              refine cf_see 132 (.bool false) (see_bool (by kernel_rfl) hc2) ?_
              refine cf_go 5 ?_
              have gH36_PP : H36_.get (PP) = some ⟨[(.slice pc k cc), .int .i64 0, .int .i64 0, .int .i64 0, .int .i64 0, (.slice po j co), .slice none 0 0, .int .i64 (fl % ((k : Nat) : Int)), .int .u32 0, .int .i64 (-1), .int .i64 0, .int .u32 0, .int .i64 1, .int .i64 ((k : Nat) : Int)], 29, false⟩ := by rw [hH36_]; exact (Heap.get_put _ _ _ _).trans (if_pos rfl)
              refine cf_val 137 (.agg #[(.slice pc k cc), .int .i64 0, .int .i64 0, .int .i64 0, .int .i64 0, (.slice po j co), .slice none 0 0, .int .i64 (fl % ((k : Nat) : Int)), .int .u32 0, .int .i64 (-1), .int .i64 0, .int .u32 0, .int .i64 1, .int .i64 ((k : Nat) : Int)]) H36_ (by kernel_rfl) ((by kernel_rfl : _ = val (aload T2 29 (.pointer (some ⟨PP, 0, none⟩)) H36_) H36_).trans (val_of ((aload_at gH36_PP).trans (by kernel_rfl)))) ?_
              have gH36_T2_ : H36_.get (T2_) = some ⟨[Value.slice none 0 0, .int .i64 0, .int .i64 0, .int .i64 0, .int .i64 0, .slice none 0 0, .slice none 0 0, .int .i64 0, .int .u32 0, .int .i64 0, .int .i64 0, .int .u32 0, .int .i64 0, .int .i64 0], 29, false⟩ := by rw [hH36_, Heap.get_put, if_neg (by omega)]; exact gT2
              obtain ⟨H39_, hH39_⟩ : ∃ x : Heap, x = H36_.put (T2_) ⟨[(.slice pc k cc), .int .i64 0, .int .i64 0, .int .i64 0, .int .i64 0, (.slice po j co), .slice none 0 0, .int .i64 (fl % ((k : Nat) : Int)), .int .u32 0, .int .i64 (-1), .int .i64 0, .int .u32 0, .int .i64 1, .int .i64 ((k : Nat) : Int)], 29, false⟩ := ⟨_, rfl⟩
              have nH39_ : H39_.n = H36_.n := by rw [hH39_]; rfl
              refine cf_skip H39_ (by kernel_rfl) ((by kernel_rfl : _ = skp (astore T2 29 (.pointer (some ⟨T2_, 0, none⟩)) (.agg #[(.slice pc k cc), .int .i64 0, .int .i64 0, .int .i64 0, .int .i64 0, (.slice po j co), .slice none 0 0, .int .i64 (fl % ((k : Nat) : Int)), .int .u32 0, .int .i64 (-1), .int .i64 0, .int .u32 0, .int .i64 1, .int .i64 ((k : Nat) : Int)]) H36_)).trans (by rw [astore_to gH36_T2_ (by kernel_rfl), ← hH39_]; rfl)) ?_
              refine cf_go 3 ?_
              have gH39_T2_ : H39_.get (T2_) = some ⟨[(.slice pc k cc), .int .i64 0, .int .i64 0, .int .i64 0, .int .i64 0, (.slice po j co), .slice none 0 0, .int .i64 (fl % ((k : Nat) : Int)), .int .u32 0, .int .i64 (-1), .int .i64 0, .int .u32 0, .int .i64 1, .int .i64 ((k : Nat) : Int)], 29, false⟩ := by rw [hH39_]; exact (Heap.get_put _ _ _ _).trans (if_pos rfl)
              have lc : (mkC ops az bs k).length = k := mkC_len ..
              have lo : (mkO outs k j).length = j := by unfold mkO; simp; omega
              have eN : mkN ops az bs = k := by unfold mkN; omega
              have eM : mkM outs k = j := hM.symm
              have eF : mkF fl k = fl % (k : Int) := by unfold mkF; rw [if_pos (by omega)]
              rw [eN, eM, eF]
              refine cf_end (.agg #[(.slice pc k cc), .int .i64 0, .int .i64 0, .int .i64 0, .int .i64 0, (.slice po j co), .slice none 0 0, .int .i64 (fl % ((k : Nat) : Int)), .int .u32 0, .int .i64 (-1), .int .i64 0, .int .u32 0, .int .i64 1, .int .i64 ((k : Nat) : Int)]) H39_ (by kernel_rfl) (ares_cell 2 29 (.pointer (some ⟨T2_, 0, none⟩)) H39_ (by kernel_rfl) (by kernel_rfl) (by kernel_rfl) ((aload_at gH39_T2_).trans (by kernel_rfl))) (by kernel_rfl) ?_
              exact ⟨pc, cc, po, co, by rw [lc, lo]; unfold mkW; first | rfl | (rw [if_pos hc2]; rfl) | (rw [if_neg (by rw [hc2]; decide)]; rfl), by rw [lc]; exact (Gr.keepX hgc2 gP2 gT2 (by decide) (by omega) (fun b hb1 hb2 hb3 hb4 => by rw [hH39_, Heap.get_put, if_neg (by omega), hH36_, Heap.get_put, if_neg (by omega)])), by rw [lo]; exact (Gr.keepX hgo gP2 gT2 (by decide) (by omega) (fun b hb1 hb2 hb3 hb4 => by rw [hH39_, Heap.get_put, if_neg (by omega), hH36_, Heap.get_put, if_neg (by omega)])), (show Up H.n H H39_ from ⟨by omega, fun b hb => by rw [hH39_, Heap.get_put, if_neg (by omega), hH36_, Heap.get_put, if_neg (by omega), uH2.get _ (by omega)]⟩)⟩
          · skip
            refine cf_go 4 ?_
            refine cf_val 86 (.int .i64 ((k : Nat) : Int)) H2 (by kernel_rfl) ((by kernel_rfl : _ = val (aload T2 3 (.pointer (some ⟨PP, 13, none⟩)) H2) H2).trans (val_of ((aload_at gP2).trans (by kernel_rfl)))) ?_
            refine cf_go 1 ?_
            refine cf_see 87 (.bool true) (see_bool (by kernel_rfl) ((decide_eq_true (by omega)) : ((decide (((k : Nat) : Int) > 0))) = true)) ?_
            refine cf_go 3 ?_
            refine cf_val 91 ((.slice pt4 outs.length cap4)) H2 (by kernel_rfl) ((by kernel_rfl : _ = val (aload T2 22 (.pointer (some ⟨D, 3, none⟩)) H2) H2).trans (val_of ((aload_at gD2).trans (by kernel_rfl)))) ?_
            refine cf_go 2 ?_
            refine cf_see 93 (.bool false) (see_bool (by kernel_rfl) ((decide_eq_false (by omega)) : ((decide (((j : Nat) : Int) < ((outs.length : Nat) : Int)))) = false)) ?_
            refine cf_go 17 ?_
            refine cf_val 116 (.int .i64 ((k : Nat) : Int)) H2 (by kernel_rfl) ((by kernel_rfl : _ = val (aload T2 3 (.pointer (some ⟨PP, 13, none⟩)) H2) H2).trans (val_of ((aload_at gP2).trans (by kernel_rfl)))) ?_
            refine cf_go 1 ?_
            refine cf_see 117 (.bool true) (see_bool (by kernel_rfl) ((decide_eq_true (by omega)) : ((decide (((k : Nat) : Int) > 0))) = true)) ?_
            refine cf_go 2 ?_
            refine cf_val 120 (.int .i64 fl) H2 (by kernel_rfl) ((by kernel_rfl : _ = val (aload T2 3 (.pointer (some ⟨D, 4, none⟩)) H2) H2).trans (val_of ((aload_at gD2).trans (by kernel_rfl)))) ?_
            refine cf_go 2 ?_
            refine cf_see 122 (.bool false) (see_bool (by kernel_rfl) ((beq_eq_false_iff_ne.2 hfl) : ((((Int.tmod fl 2) : Int) == 0)) = false)) ?_
            refine cf_go 10 ?_
            refine cf_val 132 (.bool wr) H2 (by kernel_rfl) ((by kernel_rfl : _ = val (aload T2 4 (.pointer (some ⟨D, 5, none⟩)) H2) H2).trans (val_of ((aload_at gD2).trans (by kernel_rfl)))) ?_
            refine cf_go 2 ?_
            rcases Bool.eq_false_or_eq_true (wr) with hc3 | hc3
            · skip
              refine cf_see 132 (.bool true) (see_bool (by kernel_rfl) hc3) ?_
              refine cf_go 3 ?_
              refine cf_val 134 (.int .i64 ((k : Nat) : Int)) H2 (by kernel_rfl) ((by kernel_rfl : _ = val (aload T2 3 (.pointer (some ⟨PP, 13, none⟩)) H2) H2).trans (val_of ((aload_at gP2).trans (by kernel_rfl)))) ?_
              refine cf_go 1 ?_
              refine cf_see 135 (.int .i64 ((k + 1 : Nat) : Int)) (see_int (x := (IntKind.i64.wrap (((k : Nat) : Int) + 1))) (by kernel_rfl) (w64 (by omega) (by omega) (by omega))) ?_
              refine cf_go 1 ?_
              obtain ⟨H40_, hH40_⟩ : ∃ x : Heap, x = H2.put (PP) ⟨[(.slice pc k cc), .int .i64 0, .int .i64 0, .int .i64 0, .int .i64 0, (.slice po j co), .slice none 0 0, .int .i64 (-1), .int .u32 0, .int .i64 (-1), .int .i64 0, .int .u32 0, .int .i64 1, .int .i64 ((k + 1 : Nat) : Int)], 29, false⟩ := ⟨_, rfl⟩
              have nH40_ : H40_.n = H2.n := by rw [hH40_]; rfl
              refine cf_skip H40_ (by kernel_rfl) ((by kernel_rfl : _ = skp (astore T2 3 (.pointer (some ⟨PP, 13, none⟩)) (.int .i64 ((k + 1 : Nat) : Int)) H2)).trans (by rw [astore_to gP2 (by kernel_rfl), ← hH40_]; rfl)) ?_
              refine cf_go 4 ?_
              have gH40_PP : H40_.get (PP) = some ⟨[(.slice pc k cc), .int .i64 0, .int .i64 0, .int .i64 0, .int .i64 0, (.slice po j co), .slice none 0 0, .int .i64 (-1), .int .u32 0, .int .i64 (-1), .int .i64 0, .int .u32 0, .int .i64 1, .int .i64 ((k + 1 : Nat) : Int)], 29, false⟩ := by rw [hH40_]; exact (Heap.get_put _ _ _ _).trans (if_pos rfl)
              refine cf_val 137 (.agg #[(.slice pc k cc), .int .i64 0, .int .i64 0, .int .i64 0, .int .i64 0, (.slice po j co), .slice none 0 0, .int .i64 (-1), .int .u32 0, .int .i64 (-1), .int .i64 0, .int .u32 0, .int .i64 1, .int .i64 ((k + 1 : Nat) : Int)]) H40_ (by kernel_rfl) ((by kernel_rfl : _ = val (aload T2 29 (.pointer (some ⟨PP, 0, none⟩)) H40_) H40_).trans (val_of ((aload_at gH40_PP).trans (by kernel_rfl)))) ?_
              have gH40_T2_ : H40_.get (T2_) = some ⟨[Value.slice none 0 0, .int .i64 0, .int .i64 0, .int .i64 0, .int .i64 0, .slice none 0 0, .slice none 0 0, .int .i64 0, .int .u32 0, .int .i64 0, .int .i64 0, .int .u32 0, .int .i64 0, .int .i64 0], 29, false⟩ := by rw [hH40_, Heap.get_put, if_neg (by omega)]; exact gT2
              obtain ⟨H41_, hH41_⟩ : ∃ x : Heap, x = H40_.put (T2_) ⟨[(.slice pc k cc), .int .i64 0, .int .i64 0, .int .i64 0, .int .i64 0, (.slice po j co), .slice none 0 0, .int .i64 (-1), .int .u32 0, .int .i64 (-1), .int .i64 0, .int .u32 0, .int .i64 1, .int .i64 ((k + 1 : Nat) : Int)], 29, false⟩ := ⟨_, rfl⟩
              have nH41_ : H41_.n = H40_.n := by rw [hH41_]; rfl
              refine cf_skip H41_ (by kernel_rfl) ((by kernel_rfl : _ = skp (astore T2 29 (.pointer (some ⟨T2_, 0, none⟩)) (.agg #[(.slice pc k cc), .int .i64 0, .int .i64 0, .int .i64 0, .int .i64 0, (.slice po j co), .slice none 0 0, .int .i64 (-1), .int .u32 0, .int .i64 (-1), .int .i64 0, .int .u32 0, .int .i64 1, .int .i64 ((k + 1 : Nat) : Int)]) H40_)).trans (by rw [astore_to gH40_T2_ (by kernel_rfl), ← hH41_]; rfl)) ?_
              refine cf_go 3 ?_
              have gH41_T2_ : H41_.get (T2_) = some ⟨[(.slice pc k cc), .int .i64 0, .int .i64 0, .int .i64 0, .int .i64 0, (.slice po j co), .slice none 0 0, .int .i64 (-1), .int .u32 0, .int .i64 (-1), .int .i64 0, .int .u32 0, .int .i64 1, .int .i64 ((k + 1 : Nat) : Int)], 29, false⟩ := by rw [hH41_]; exact (Heap.get_put _ _ _ _).trans (if_pos rfl)
              have lc : (mkC ops az bs k).length = k := mkC_len ..
              have lo : (mkO outs k j).length = j := by unfold mkO; simp; omega
              have eN : mkN ops az bs = k := by unfold mkN; omega
              have eM : mkM outs k = j := hM.symm
              have eF : mkF fl k = (-1) := by unfold mkF; rw [if_neg (by omega)]
              rw [eN, eM, eF]
              refine cf_end (.agg #[(.slice pc k cc), .int .i64 0, .int .i64 0, .int .i64 0, .int .i64 0, (.slice po j co), .slice none 0 0, .int .i64 (-1), .int .u32 0, .int .i64 (-1), .int .i64 0, .int .u32 0, .int .i64 1, .int .i64 ((k + 1 : Nat) : Int)]) H41_ (by kernel_rfl) (ares_cell 2 29 (.pointer (some ⟨T2_, 0, none⟩)) H41_ (by kernel_rfl) (by kernel_rfl) (by kernel_rfl) ((aload_at gH41_T2_).trans (by kernel_rfl))) (by kernel_rfl) ?_
              exact ⟨pc, cc, po, co, by rw [lc, lo]; unfold mkW; first | rfl | (rw [if_pos hc3]; rfl) | (rw [if_neg (by rw [hc3]; decide)]; rfl), by rw [lc]; exact (Gr.keepX hgc2 gP2 gT2 (by decide) (by omega) (fun b hb1 hb2 hb3 hb4 => by rw [hH41_, Heap.get_put, if_neg (by omega), hH40_, Heap.get_put, if_neg (by omega)])), by rw [lo]; exact (Gr.keepX hgo gP2 gT2 (by decide) (by omega) (fun b hb1 hb2 hb3 hb4 => by rw [hH41_, Heap.get_put, if_neg (by omega), hH40_, Heap.get_put, if_neg (by omega)])), (show Up H.n H H41_ from ⟨by omega, fun b hb => by rw [hH41_, Heap.get_put, if_neg (by omega), hH40_, Heap.get_put, if_neg (by omega), uH2.get _ (by omega)]⟩)⟩
            · skip
              refine cf_see 132 (.bool false) (see_bool (by kernel_rfl) hc3) ?_
              refine cf_go 5 ?_
              refine cf_val 137 (.agg #[(.slice pc k cc), .int .i64 0, .int .i64 0, .int .i64 0, .int .i64 0, (.slice po j co), .slice none 0 0, .int .i64 (-1), .int .u32 0, .int .i64 (-1), .int .i64 0, .int .u32 0, .int .i64 1, .int .i64 ((k : Nat) : Int)]) H2 (by kernel_rfl) ((by kernel_rfl : _ = val (aload T2 29 (.pointer (some ⟨PP, 0, none⟩)) H2) H2).trans (val_of ((aload_at gP2).trans (by kernel_rfl)))) ?_
              obtain ⟨H42_, hH42_⟩ : ∃ x : Heap, x = H2.put (T2_) ⟨[(.slice pc k cc), .int .i64 0, .int .i64 0, .int .i64 0, .int .i64 0, (.slice po j co), .slice none 0 0, .int .i64 (-1), .int .u32 0, .int .i64 (-1), .int .i64 0, .int .u32 0, .int .i64 1, .int .i64 ((k : Nat) : Int)], 29, false⟩ := ⟨_, rfl⟩
              have nH42_ : H42_.n = H2.n := by rw [hH42_]; rfl
              refine cf_skip H42_ (by kernel_rfl) ((by kernel_rfl : _ = skp (astore T2 29 (.pointer (some ⟨T2_, 0, none⟩)) (.agg #[(.slice pc k cc), .int .i64 0, .int .i64 0, .int .i64 0, .int .i64 0, (.slice po j co), .slice none 0 0, .int .i64 (-1), .int .u32 0, .int .i64 (-1), .int .i64 0, .int .u32 0, .int .i64 1, .int .i64 ((k : Nat) : Int)]) H2)).trans (by rw [astore_to gT2 (by kernel_rfl), ← hH42_]; rfl)) ?_
              refine cf_go 3 ?_
              have gH42_T2_ : H42_.get (T2_) = some ⟨[(.slice pc k cc), .int .i64 0, .int .i64 0, .int .i64 0, .int .i64 0, (.slice po j co), .slice none 0 0, .int .i64 (-1), .int .u32 0, .int .i64 (-1), .int .i64 0, .int .u32 0, .int .i64 1, .int .i64 ((k : Nat) : Int)], 29, false⟩ := by rw [hH42_]; exact (Heap.get_put _ _ _ _).trans (if_pos rfl)
              have lc : (mkC ops az bs k).length = k := mkC_len ..
              have lo : (mkO outs k j).length = j := by unfold mkO; simp; omega
              have eN : mkN ops az bs = k := by unfold mkN; omega
              have eM : mkM outs k = j := hM.symm
              have eF : mkF fl k = (-1) := by unfold mkF; rw [if_neg (by omega)]
              rw [eN, eM, eF]
              refine cf_end (.agg #[(.slice pc k cc), .int .i64 0, .int .i64 0, .int .i64 0, .int .i64 0, (.slice po j co), .slice none 0 0, .int .i64 (-1), .int .u32 0, .int .i64 (-1), .int .i64 0, .int .u32 0, .int .i64 1, .int .i64 ((k : Nat) : Int)]) H42_ (by kernel_rfl) (ares_cell 2 29 (.pointer (some ⟨T2_, 0, none⟩)) H42_ (by kernel_rfl) (by kernel_rfl) (by kernel_rfl) ((aload_at gH42_T2_).trans (by kernel_rfl))) (by kernel_rfl) ?_
              exact ⟨pc, cc, po, co, by rw [lc, lo]; unfold mkW; first | rfl | (rw [if_pos hc3]; rfl) | (rw [if_neg (by rw [hc3]; decide)]; rfl), by rw [lc]; exact (Gr.keepX hgc2 gP2 gT2 (by decide) (by omega) (fun b hb1 hb2 hb3 hb4 => by rw [hH42_, Heap.get_put, if_neg (by omega)])), by rw [lo]; exact (Gr.keepX hgo gP2 gT2 (by decide) (by omega) (fun b hb1 hb2 hb3 hb4 => by rw [hH42_, Heap.get_put, if_neg (by omega)])), (show Up H.n H H42_ from ⟨by omega, fun b hb => by rw [hH42_, Heap.get_put, if_neg (by omega), uH2.get _ (by omega)]⟩)⟩
        · skip
          by_cases hfl : Int.tmod fl 2 = 0
          · skip
            refine cf_go 4 ?_
            refine cf_val 86 (.int .i64 ((k : Nat) : Int)) H2 (by kernel_rfl) ((by kernel_rfl : _ = val (aload T2 3 (.pointer (some ⟨PP, 13, none⟩)) H2) H2).trans (val_of ((aload_at gP2).trans (by kernel_rfl)))) ?_
            refine cf_go 1 ?_
            refine cf_see 87 (.bool true) (see_bool (by kernel_rfl) ((decide_eq_true (by omega)) : ((decide (((k : Nat) : Int) > 0))) = true)) ?_
            refine cf_go 3 ?_
            refine cf_val 91 ((.slice pt4 outs.length cap4)) H2 (by kernel_rfl) ((by kernel_rfl : _ = val (aload T2 22 (.pointer (some ⟨D, 3, none⟩)) H2) H2).trans (val_of ((aload_at gD2).trans (by kernel_rfl)))) ?_
            refine cf_go 2 ?_
            refine cf_see 93 (.bool true) (see_bool (by kernel_rfl) ((decide_eq_true (by omega)) : ((decide (((j : Nat) : Int) < ((outs.length : Nat) : Int)))) = true)) ?_
            refine cf_go 4 ?_
            refine cf_see 97 (.bool false) (see_bool (by kernel_rfl) ((decide_eq_false (by omega)) : ((decide (((j : Nat) : Int) < 6))) = false)) ?_
            refine cf_go 13 ?_
            refine cf_val 116 (.int .i64 ((k : Nat) : Int)) H2 (by kernel_rfl) ((by kernel_rfl : _ = val (aload T2 3 (.pointer (some ⟨PP, 13, none⟩)) H2) H2).trans (val_of ((aload_at gP2).trans (by kernel_rfl)))) ?_
            refine cf_go 1 ?_
            refine cf_see 117 (.bool true) (see_bool (by kernel_rfl) ((decide_eq_true (by omega)) : ((decide (((k : Nat) : Int) > 0))) = true)) ?_
            refine cf_go 2 ?_
            refine cf_val 120 (.int .i64 fl) H2 (by kernel_rfl) ((by kernel_rfl : _ = val (aload T2 3 (.pointer (some ⟨D, 4, none⟩)) H2) H2).trans (val_of ((aload_at gD2).trans (by kernel_rfl)))) ?_
            refine cf_go 2 ?_
            refine cf_see 122 (.bool true) (see_bool (by kernel_rfl) ((beq_iff_eq.2 hfl) : ((((Int.tmod fl 2) : Int) == 0)) = true)) ?_
            refine cf_go 6 ?_
            refine cf_val 125 (.int .i64 fl) H2 (by kernel_rfl) ((by kernel_rfl : _ = val (aload T2 3 (.pointer (some ⟨D, 4, none⟩)) H2) H2).trans (val_of ((aload_at gD2).trans (by kernel_rfl)))) ?_
            refine cf_go 1 ?_
            refine cf_val 127 (.int .i64 ((k : Nat) : Int)) H2 (by kernel_rfl) ((by kernel_rfl : _ = val (aload T2 3 (.pointer (some ⟨PP, 13, none⟩)) H2) H2).trans (val_of ((aload_at gP2).trans (by kernel_rfl)))) ?_
            refine cf_go 1 ?_
            refine cf_see 128 (.int .i64 (((k : Nat) : Int) - 1)) (see_int (x := (IntKind.i64.wrap (((k : Nat) : Int) - 1))) (by kernel_rfl) (w64 (by omega) (by omega) (by omega))) ?_
            refine cf_ask 129 (.int .i64 (0 + fl % ((((k : Nat) : Int) - 1) - 0 + 1))) 12 #[.int .i64 fl, .int .i64 0, .int .i64 (((k : Nat) : Int) - 1)] (by kernel_rfl) (by kernel_rfl) (orc12 fl 0 (((k : Nat) : Int) - 1) (by simp only [inB, Bool.and_eq_true, decide_eq_true_eq]; omega)) ?_
            refine cf_see 129 (.int .i64 (fl % ((k : Nat) : Int))) (see_int (x := (0 + fl % ((((k : Nat) : Int) - 1) - 0 + 1))) (by kernel_rfl) (by rw [show ((((k : Nat) : Int) - 1) - 0 + 1 : Int) = ((k : Nat) : Int) by omega]; omega)) ?_
            refine cf_go 1 ?_
            obtain ⟨H43_, hH43_⟩ : ∃ x : Heap, x = H2.put (PP) ⟨[(.slice pc k cc), .int .i64 0, .int .i64 0, .int .i64 0, .int .i64 0, (.slice po j co), .slice none 0 0, .int .i64 (fl % ((k : Nat) : Int)), .int .u32 0, .int .i64 (-1), .int .i64 0, .int .u32 0, .int .i64 1, .int .i64 ((k : Nat) : Int)], 29, false⟩ := ⟨_, rfl⟩
            have nH43_ : H43_.n = H2.n := by rw [hH43_]; rfl
            refine cf_skip H43_ (by kernel_rfl) ((by kernel_rfl : _ = skp (astore T2 3 (.pointer (some ⟨PP, 7, none⟩)) (.int .i64 (fl % ((k : Nat) : Int))) H2)).trans (by rw [astore_to gP2 (by kernel_rfl), ← hH43_]; rfl)) ?_
            refine cf_go 6 ?_
            have gH43_D : H43_.get (D) = some ⟨[(.slice pt1 ops.length cap1), (.slice pt2 az.length cap2), (.slice pt3 bs.length cap3), (.slice pt4 outs.length cap4), .int .i64 fl, .bool wr], 24, false⟩ := by rw [hH43_, Heap.get_put, if_neg (by omega)]; exact gD2
            refine cf_val 132 (.bool wr) H43_ (by kernel_rfl) ((by kernel_rfl : _ = val (aload T2 4 (.pointer (some ⟨D, 5, none⟩)) H43_) H43_).trans (val_of ((aload_at gH43_D).trans (by kernel_rfl)))) ?_
            refine cf_go 2 ?_
            rcases Bool.eq_false_or_eq_true (wr) with hc4 | hc4
            · skip
              refine cf_see 132 (.bool true) (see_bool (by kernel_rfl) hc4) ?_
              refine cf_go 3 ?_
              have gH43_PP : H43_.get (PP) = some ⟨[(.slice pc k cc), .int .i64 0, .int .i64 0, .int .i64 0, .int .i64 0, (.slice po j co), .slice none 0 0, .int .i64 (fl % ((k : Nat) : Int)), .int .u32 0, .int .i64 (-1), .int .i64 0, .int .u32 0, .int .i64 1, .int .i64 ((k : Nat) : Int)], 29, false⟩ := by rw [hH43_]; exact (Heap.get_put _ _ _ _).trans (if_pos rfl)
              refine cf_val 134 (.int .i64 ((k : Nat) : Int)) H43_ (by kernel_rfl) ((by kernel_rfl : _ = val (aload T2 3 (.pointer (some ⟨PP, 13, none⟩)) H43_) H43_).trans (val_of ((aload_at gH43_PP).trans (by kernel_rfl)))) ?_
              refine cf_go 1 ?_
              refine cf_see 135 (.int .i64 ((k + 1 : Nat) : Int)) (see_int (x := (IntKind.i64.wrap (((k : Nat) : Int) + 1))) (by kernel_rfl) (w64 (by omega) (by omega) (by omega))) ?_
              refine cf_go 1 ?_
              obtain ⟨H44_, hH44_⟩ : ∃ x : Heap, x = H43_.put (PP) ⟨[(.slice pc k cc), .int .i64 0, .int .i64 0, .int .i64 0, .int .i64 0, (.slice po j co), .slice none 0 0, .int .i64 (fl % ((k : Nat) : Int)), .int .u32 0, .int .i64 (-1), .int .i64 0, .int .u32 0, .int .i64 1, .int .i64 ((k + 1 : Nat) : Int)], 29, false⟩ := ⟨_, rfl⟩
              have nH44_ : H44_.n = H43_.n := by rw [hH44_]; rfl
              refine cf_skip H44_ (by kernel_rfl) ((by kernel_rfl : _ = skp (astore T2 3 (.pointer (some ⟨PP, 13, none⟩)) (.int .i64 ((k + 1 : Nat) : Int)) H43_)).trans (by rw [astore_to gH43_PP (by kernel_rfl), ← hH44_]; rfl)) ?_
              refine cf_go 4 ?_
              have gH44_PP : H44_.get (PP) = some ⟨[(.slice pc k cc), .int .i64 0, .int .i64 0, .int .i64 0, .int .i64 0, (.slice po j co), .slice none 0 0, .int .i64 (fl % ((k : Nat) : Int)), .int .u32 0, .int .i64 (-1), .int .i64 0, .int .u32 0, .int .i64 1, .int .i64 ((k + 1 : Nat) : Int)], 29, false⟩ := by rw [hH44_]; exact (Heap.get_put _ _ _ _).trans (if_pos rfl)
              refine cf_val 137 (.agg #[(.slice pc k cc), .int .i64 0, .int .i64 0, .int .i64 0, .int .i64 0, (.slice po j co), .slice none 0 0, .int .i64 (fl % ((k : Nat) : Int)), .int .u32 0, .int .i64 (-1), .int .i64 0, .int .u32 0, .int .i64 1, .int .i64 ((k + 1 : Nat) : Int)]) H44_ (by kernel_rfl) ((by kernel_rfl : _ = val (aload T2 29 (.pointer (some ⟨PP, 0, none⟩)) H44_) H44_).trans (val_of ((aload_at gH44_PP).trans (by kernel_rfl)))) ?_
              have gH44_T2_ : H44_.get (T2_) = some ⟨[Value.slice none 0 0, .int .i64 0, .int .i64 0, .int .i64 0, .int .i64 0, .slice none 0 0, .slice none 0 0, .int .i64 0, .int .u32 0, .int .i64 0, .int .i64 0, .int .u32 0, .int .i64 0, .int .i64 0], 29, false⟩ := by rw [hH44_, Heap.get_put, if_neg (by omega)]; rw [hH43_, Heap.get_put, if_neg (by omega)]; exact gT2
              obtain ⟨H45_, hH45_⟩ : ∃ x : Heap, x = H44_.put (T2_) ⟨[(.slice pc k cc), .int .i64 0, .int .i64 0, .int .i64 0, .int .i64 0, (.slice po j co), .slice none 0 0, .int .i64 (fl % ((k : Nat) : Int)), .int .u32 0, .int .i64 (-1), .int .i64 0, .int .u32 0, .int .i64 1, .int .i64 ((k + 1 : Nat) : Int)], 29, false⟩ := ⟨_, rfl⟩
              have nH45_ : H45_.n = H44_.n := by rw [hH45_]; rfl
              refine cf_skip H45_ (by kernel_rfl) ((by kernel_rfl : _ = skp (astore T2 29 (.pointer (some ⟨T2_, 0, none⟩)) (.agg #[(.slice pc k cc), .int .i64 0, .int .i64 0, .int .i64 0, .int .i64 0, (.slice po j co), .slice none 0 0, .int .i64 (fl % ((k : Nat) : Int)), .int .u32 0, .int .i64 (-1), .int .i64 0, .int .u32 0, .int .i64 1, .int .i64 ((k + 1 : Nat) : Int)]) H44_)).trans (by rw [astore_to gH44_T2_ (by kernel_rfl), ← hH45_]; rfl)) ?_
              refine cf_go 3 ?_
              have gH45_T2_ : H45_.get (T2_) = some ⟨[(.slice pc k cc), .int .i64 0, .int .i64 0, .int .i64 0, .int .i64 0, (.slice po j co), .slice none 0 0, .int .i64 (fl % ((k : Nat) : Int)), .int .u32 0, .int .i64 (-1), .int .i64 0, .int .u32 0, .int .i64 1, .int .i64 ((k + 1 : Nat) : Int)], 29, false⟩ := by rw [hH45_]; exact (Heap.get_put _ _ _ _).trans (if_pos rfl)
              have lc : (mkC ops az bs k).length = k := mkC_len ..
              have lo : (mkO outs k j).length = j := by unfold mkO; simp; omega
              have eN : mkN ops az bs = k := by unfold mkN; omega
              have eM : mkM outs k = j := hM.symm
              have eF : mkF fl k = fl % (k : Int) := by unfold mkF; rw [if_pos (by omega)]
              rw [eN, eM, eF]
              refine cf_end (.agg #[(.slice pc k cc), .int .i64 0, .int .i64 0, .int .i64 0, .int .i64 0, (.slice po j co), .slice none 0 0, .int .i64 (fl % ((k : Nat) : Int)), .int .u32 0, .int .i64 (-1), .int .i64 0, .int .u32 0, .int .i64 1, .int .i64 ((k + 1 : Nat) : Int)]) H45_ (by kernel_rfl) (ares_cell 2 29 (.pointer (some ⟨T2_, 0, none⟩)) H45_ (by kernel_rfl) (by kernel_rfl) (by kernel_rfl) ((aload_at gH45_T2_).trans (by kernel_rfl))) (by kernel_rfl) ?_
              exact ⟨pc, cc, po, co, by rw [lc, lo]; unfold mkW; first | rfl | (rw [if_pos hc4]; rfl) | (rw [if_neg (by rw [hc4]; decide)]; rfl), by rw [lc]; exact (Gr.keepX hgc2 gP2 gT2 (by decide) (by omega) (fun b hb1 hb2 hb3 hb4 => by rw [hH45_, Heap.get_put, if_neg (by omega), hH44_, Heap.get_put, if_neg (by omega), hH43_, Heap.get_put, if_neg (by omega)])), by rw [lo]; exact (Gr.keepX hgo gP2 gT2 (by decide) (by omega) (fun b hb1 hb2 hb3 hb4 => by rw [hH45_, Heap.get_put, if_neg (by omega), hH44_, Heap.get_put, if_neg (by omega), hH43_, Heap.get_put, if_neg (by omega)])), (show Up H.n H H45_ from ⟨by omega, fun b hb => by rw [hH45_, Heap.get_put, if_neg (by omega), hH44_, Heap.get_put, if_neg (by omega), hH43_, Heap.get_put, if_neg (by omega), uH2.get _ (by omega)]⟩)⟩
            · skip
              refine cf_see 132 (.bool false) (see_bool (by kernel_rfl) hc4) ?_
              refine cf_go 5 ?_
              have gH43_PP : H43_.get (PP) = some ⟨[(.slice pc k cc), .int .i64 0, .int .i64 0, .int .i64 0, .int .i64 0, (.slice po j co), .slice none 0 0, .int .i64 (fl % ((k : Nat) : Int)), .int .u32 0, .int .i64 (-1), .int .i64 0, .int .u32 0, .int .i64 1, .int .i64 ((k : Nat) : Int)], 29, false⟩ := by rw [hH43_]; exact (Heap.get_put _ _ _ _).trans (if_pos rfl)
              refine cf_val 137 (.agg #[(.slice pc k cc), .int .i64 0, .int .i64 0, .int .i64 0, .int .i64 0, (.slice po j co), .slice none 0 0, .int .i64 (fl % ((k : Nat) : Int)), .int .u32 0, .int .i64 (-1), .int .i64 0, .int .u32 0, .int .i64 1, .int .i64 ((k : Nat) : Int)]) H43_ (by kernel_rfl) ((by kernel_rfl : _ = val (aload T2 29 (.pointer (some ⟨PP, 0, none⟩)) H43_) H43_).trans (val_of ((aload_at gH43_PP).trans (by kernel_rfl)))) ?_
              have gH43_T2_ : H43_.get (T2_) = some ⟨[Value.slice none 0 0, .int .i64 0, .int .i64 0, .int .i64 0, .int .i64 0, .slice none 0 0, .slice none 0 0, .int .i64 0, .int .u32 0, .int .i64 0, .int .i64 0, .int .u32 0, .int .i64 0, .int .i64 0], 29, false⟩ := by rw [hH43_, Heap.get_put, if_neg (by omega)]; exact gT2
              obtain ⟨H46_, hH46_⟩ : ∃ x : Heap, x = H43_.put (T2_) ⟨[(.slice pc k cc), .int .i64 0, .int .i64 0, .int .i64 0, .int .i64 0, (.slice po j co), .slice none 0 0, .int .i64 (fl % ((k : Nat) : Int)), .int .u32 0, .int .i64 (-1), .int .i64 0, .int .u32 0, .int .i64 1, .int .i64 ((k : Nat) : Int)], 29, false⟩ := ⟨_, rfl⟩
              have nH46_ : H46_.n = H43_.n := by rw [hH46_]; rfl
              refine cf_skip H46_ (by kernel_rfl) ((by kernel_rfl : _ = skp (astore T2 29 (.pointer (some ⟨T2_, 0, none⟩)) (.agg #[(.slice pc k cc), .int .i64 0, .int .i64 0, .int .i64 0, .int .i64 0, (.slice po j co), .slice none 0 0, .int .i64 (fl % ((k : Nat) : Int)), .int .u32 0, .int .i64 (-1), .int .i64 0, .int .u32 0, .int .i64 1, .int .i64 ((k : Nat) : Int)]) H43_)).trans (by rw [astore_to gH43_T2_ (by kernel_rfl), ← hH46_]; rfl)) ?_
              refine cf_go 3 ?_
              have gH46_T2_ : H46_.get (T2_) = some ⟨[(.slice pc k cc), .int .i64 0, .int .i64 0, .int .i64 0, .int .i64 0, (.slice po j co), .slice none 0 0, .int .i64 (fl % ((k : Nat) : Int)), .int .u32 0, .int .i64 (-1), .int .i64 0, .int .u32 0, .int .i64 1, .int .i64 ((k : Nat) : Int)], 29, false⟩ := by rw [hH46_]; exact (Heap.get_put _ _ _ _).trans (if_pos rfl)
              have lc : (mkC ops az bs k).length = k := mkC_len ..
              have lo : (mkO outs k j).length = j := by unfold mkO; simp; omega
              have eN : mkN ops az bs = k := by unfold mkN; omega
              have eM : mkM outs k = j := hM.symm
              have eF : mkF fl k = fl % (k : Int) := by unfold mkF; rw [if_pos (by omega)]
              rw [eN, eM, eF]
              refine cf_end (.agg #[(.slice pc k cc), .int .i64 0, .int .i64 0, .int .i64 0, .int .i64 0, (.slice po j co), .slice none 0 0, .int .i64 (fl % ((k : Nat) : Int)), .int .u32 0, .int .i64 (-1), .int .i64 0, .int .u32 0, .int .i64 1, .int .i64 ((k : Nat) : Int)]) H46_ (by kernel_rfl) (ares_cell 2 29 (.pointer (some ⟨T2_, 0, none⟩)) H46_ (by kernel_rfl) (by kernel_rfl) (by kernel_rfl) ((aload_at gH46_T2_).trans (by kernel_rfl))) (by kernel_rfl) ?_
              exact ⟨pc, cc, po, co, by rw [lc, lo]; unfold mkW; first | rfl | (rw [if_pos hc4]; rfl) | (rw [if_neg (by rw [hc4]; decide)]; rfl), by rw [lc]; exact (Gr.keepX hgc2 gP2 gT2 (by decide) (by omega) (fun b hb1 hb2 hb3 hb4 => by rw [hH46_, Heap.get_put, if_neg (by omega), hH43_, Heap.get_put, if_neg (by omega)])), by rw [lo]; exact (Gr.keepX hgo gP2 gT2 (by decide) (by omega) (fun b hb1 hb2 hb3 hb4 => by rw [hH46_, Heap.get_put, if_neg (by omega), hH43_, Heap.get_put, if_neg (by omega)])), (show Up H.n H H46_ from ⟨by omega, fun b hb => by rw [hH46_, Heap.get_put, if_neg (by omega), hH43_, Heap.get_put, if_neg (by omega), uH2.get _ (by omega)]⟩)⟩
          · skip
            refine cf_go 4 ?_
            refine cf_val 86 (.int .i64 ((k : Nat) : Int)) H2 (by kernel_rfl) ((by kernel_rfl : _ = val (aload T2 3 (.pointer (some ⟨PP, 13, none⟩)) H2) H2).trans (val_of ((aload_at gP2).trans (by kernel_rfl)))) ?_
            refine cf_go 1 ?_
            refine cf_see 87 (.bool true) (see_bool (by kernel_rfl) ((decide_eq_true (by omega)) : ((decide (((k : Nat) : Int) > 0))) = true)) ?_
            refine cf_go 3 ?_
            refine cf_val 91 ((.slice pt4 outs.length cap4)) H2 (by kernel_rfl) ((by kernel_rfl : _ = val (aload T2 22 (.pointer (some ⟨D, 3, none⟩)) H2) H2).trans (val_of ((aload_at gD2).trans (by kernel_rfl)))) ?_
            refine cf_go 2 ?_
            refine cf_see 93 (.bool true) (see_bool (by kernel_rfl) ((decide_eq_true (by omega)) : ((decide (((j : Nat) : Int) < ((outs.length : Nat) : Int)))) = true)) ?_
            refine cf_go 4 ?_
            refine cf_see 97 (.bool false) (see_bool (by kernel_rfl) ((decide_eq_false (by omega)) : ((decide (((j : Nat) : Int) < 6))) = false)) ?_
            refine cf_go 13 ?_
            refine cf_val 116 (.int .i64 ((k : Nat) : Int)) H2 (by kernel_rfl) ((by kernel_rfl : _ = val (aload T2 3 (.pointer (some ⟨PP, 13, none⟩)) H2) H2).trans (val_of ((aload_at gP2).trans (by kernel_rfl)))) ?_
            refine cf_go 1 ?_
            refine cf_see 117 (.bool true) (see_bool (by kernel_rfl) ((decide_eq_true (by omega)) : ((decide (((k : Nat) : Int) > 0))) = true)) ?_
            refine cf_go 2 ?_
            refine cf_val 120 (.int .i64 fl) H2 (by kernel_rfl) ((by kernel_rfl : _ = val (aload T2 3 (.pointer (some ⟨D, 4, none⟩)) H2) H2).trans (val_of ((aload_at gD2).trans (by kernel_rfl)))) ?_
            refine cf_go 2 ?_
            refine cf_see 122 (.bool false) (see_bool (by kernel_rfl) ((beq_eq_false_iff_ne.2 hfl) : ((((Int.tmod fl 2) : Int) == 0)) = false)) ?_
            refine cf_go 10 ?_
            refine cf_val 132 (.bool wr) H2 (by kernel_rfl) ((by kernel_rfl : _ = val (aload T2 4 (.pointer (some ⟨D, 5, none⟩)) H2) H2).trans (val_of ((aload_at gD2).trans (by kernel_rfl)))) ?_
            refine cf_go 2 ?_
            rcases Bool.eq_false_or_eq_true (wr) with hc5 | hc5
            · skip
              refine cf_see 132 (.bool true) (see_bool (by kernel_rfl) hc5) ?_
              refine cf_go 3 ?_
              refine cf_val 134 (.int .i64 ((k : Nat) : Int)) H2 (by kernel_rfl) ((by kernel_rfl : _ = val (aload T2 3 (.pointer (some ⟨PP, 13, none⟩)) H2) H2).trans (val_of ((aload_at gP2).trans (by kernel_rfl)))) ?_
              refine cf_go 1 ?_
              refine cf_see 135 (.int .i64 ((k + 1 : Nat) : Int)) (see_int (x := (IntKind.i64.wrap (((k : Nat) : Int) + 1))) (by kernel_rfl) (w64 (by omega) (by omega) (by omega))) ?_
              refine cf_go 1 ?_
              obtain ⟨H47_, hH47_⟩ : ∃ x : Heap, x = H2.put (PP) ⟨[(.slice pc k cc), .int .i64 0, .int .i64 0, .int .i64 0, .int .i64 0, (.slice po j co), .slice none 0 0, .int .i64 (-1), .int .u32 0, .int .i64 (-1), .int .i64 0, .int .u32 0, .int .i64 1, .int .i64 ((k + 1 : Nat) : Int)], 29, false⟩ := ⟨_, rfl⟩
              have nH47_ : H47_.n = H2.n := by rw [hH47_]; rfl
              refine cf_skip H47_ (by kernel_rfl) ((by kernel_rfl : _ = skp (astore T2 3 (.pointer (some ⟨PP, 13, none⟩)) (.int .i64 ((k + 1 : Nat) : Int)) H2)).trans (by rw [astore_to gP2 (by kernel_rfl), ← hH47_]; rfl)) ?_
              refine cf_go 4 ?_
              have gH47_PP : H47_.get (PP) = some ⟨[(.slice pc k cc), .int .i64 0, .int .i64 0, .int .i64 0, .int .i64 0, (.slice po j co), .slice none 0 0, .int .i64 (-1), .int .u32 0, .int .i64 (-1), .int .i64 0, .int .u32 0, .int .i64 1, .int .i64 ((k + 1 : Nat) : Int)], 29, false⟩ := by rw [hH47_]; exact (Heap.get_put _ _ _ _).trans (if_pos rfl)
              refine cf_val 137 (.agg #[(.slice pc k cc), .int .i64 0, .int .i64 0, .int .i64 0, .int .i64 0, (.slice po j co), .slice none 0 0, .int .i64 (-1), .int .u32 0, .int .i64 (-1), .int .i64 0, .int .u32 0, .int .i64 1, .int .i64 ((k + 1 : Nat) : Int)]) H47_ (by kernel_rfl) ((by kernel_rfl : _ = val (aload T2 29 (.pointer (some ⟨PP, 0, none⟩)) H47_) H47_).trans (val_of ((aload_at gH47_PP).trans (by kernel_rfl)))) ?_
              have gH47_T2_ : H47_.get (T2_) = some ⟨[Value.slice none 0 0, .int .i64 0, .int .i64 0, .int .i64 0, .int .i64 0, .slice none 0 0, .slice none 0 0, .int .i64 0, .int .u32 0, .int .i64 0, .int .i64 0, .int .u32 0, .int .i64 0, .int .i64 0], 29, false⟩ := by rw [hH47_, Heap.get_put, if_neg (by omega)]; exact gT2
              obtain ⟨H48_, hH48_⟩ : ∃ x : Heap, x = H47_.put (T2_) ⟨[(.slice pc k cc), .int .i64 0, .int .i64 0, .int .i64 0, .int .i64 0, (.slice po j co), .slice none 0 0, .int .i64 (-1), .int .u32 0, .int .i64 (-1), .int .i64 0, .int .u32 0, .int .i64 1, .int .i64 ((k + 1 : Nat) : Int)], 29, false⟩ := ⟨_, rfl⟩
              have nH48_ : H48_.n = H47_.n := by rw [hH48_]; rfl
              refine cf_skip H48_ (by kernel_rfl) ((by kernel_rfl : _ = skp (astore T2 29 (.pointer (some ⟨T2_, 0, none⟩)) (.agg #[(.slice pc k cc), .int .i64 0, .int .i64 0, .int .i64 0, .int .i64 0, (.slice po j co), .slice none 0 0, .int .i64 (-1), .int .u32 0, .int .i64 (-1), .int .i64 0, .int .u32 0, .int .i64 1, .int .i64 ((k + 1 : Nat) : Int)]) H47_)).trans (by rw [astore_to gH47_T2_ (by kernel_rfl), ← hH48_]; rfl)) ?_
              refine cf_go 3 ?_
              have gH48_T2_ : H48_.get (T2_) = some ⟨[(.slice pc k cc), .int .i64 0, .int .i64 0, .int .i64 0, .int .i64 0, (.slice po j co), .slice none 0 0, .int .i64 (-1), .int .u32 0, .int .i64 (-1), .int .i64 0, .int .u32 0, .int .i64 1, .int .i64 ((k + 1 : Nat) : Int)], 29, false⟩ := by rw [hH48_]; exact (Heap.get_put _ _ _ _).trans (if_pos rfl)
              have lc : (mkC ops az bs k).length = k := mkC_len ..
              have lo : (mkO outs k j).length = j := by unfold mkO; simp; omega
              have eN : mkN ops az bs = k := by unfold mkN; omega
              have eM : mkM outs k = j := hM.symm
              have eF : mkF fl k = (-1) := by unfold mkF; rw [if_neg (by omega)]
              rw [eN, eM, eF]
              refine cf_end (.agg #[(.slice pc k cc), .int .i64 0, .int .i64 0, .int .i64 0, .int .i64 0, (.slice po j co), .slice none 0 0, .int .i64 (-1), .int .u32 0, .int .i64 (-1), .int .i64 0, .int .u32 0, .int .i64 1, .int .i64 ((k + 1 : Nat) : Int)]) H48_ (by kernel_rfl) (ares_cell 2 29 (.pointer (some ⟨T2_, 0, none⟩)) H48_ (by kernel_rfl) (by kernel_rfl) (by kernel_rfl) ((aload_at gH48_T2_).trans (by kernel_rfl))) (by kernel_rfl) ?_
              exact ⟨pc, cc, po, co, by rw [lc, lo]; unfold mkW; first | rfl | (rw [if_pos hc5]; rfl) | (rw [if_neg (by rw [hc5]; decide)]; rfl), by rw [lc]; exact (Gr.keepX hgc2 gP2 gT2 (by decide) (by omega) (fun b hb1 hb2 hb3 hb4 => by rw [hH48_, Heap.get_put, if_neg (by omega), hH47_, Heap.get_put, if_neg (by omega)])), by rw [lo]; exact (Gr.keepX hgo gP2 gT2 (by decide) (by omega) (fun b hb1 hb2 hb3 hb4 => by rw [hH48_, Heap.get_put, if_neg (by omega), hH47_, Heap.get_put, if_neg (by omega)])), (show Up H.n H H48_ from ⟨by omega, fun b hb => by rw [hH48_, Heap.get_put, if_neg (by omega), hH47_, Heap.get_put, if_neg (by omega), uH2.get _ (by omega)]⟩)⟩
            · skip
              refine cf_see 132 (.bool false) (see_bool (by kernel_rfl) hc5) ?_
              refine cf_go 5 ?_
              refine cf_val 137 (.agg #[(.slice pc k cc), .int .i64 0, .int .i64 0, .int .i64 0, .int .i64 0, (.slice po j co), .slice none 0 0, .int .i64 (-1), .int .u32 0, .int .i64 (-1), .int .i64 0, .int .u32 0, .int .i64 1, .int .i64 ((k : Nat) : Int)]) H2 (by kernel_rfl) ((by kernel_rfl : _ = val (aload T2 29 (.pointer (some ⟨PP, 0, none⟩)) H2) H2).trans (val_of ((aload_at gP2).trans (by kernel_rfl)))) ?_
              obtain ⟨H49_, hH49_⟩ : ∃ x : Heap, x = H2.put (T2_) ⟨[(.slice pc k cc), .int .i64 0, .int .i64 0, .int .i64 0, .int .i64 0, (.slice po j co), .slice none 0 0, .int .i64 (-1), .int .u32 0, .int .i64 (-1), .int .i64 0, .int .u32 0, .int .i64 1, .int .i64 ((k : Nat) : Int)], 29, false⟩ := ⟨_, rfl⟩
              have nH49_ : H49_.n = H2.n := by rw [hH49_]; rfl
              refine cf_skip H49_ (by kernel_rfl) ((by kernel_rfl : _ = skp (astore T2 29 (.pointer (some ⟨T2_, 0, none⟩)) (.agg #[(.slice pc k cc), .int .i64 0, .int .i64 0, .int .i64 0, .int .i64 0, (.slice po j co), .slice none 0 0, .int .i64 (-1), .int .u32 0, .int .i64 (-1), .int .i64 0, .int .u32 0, .int .i64 1, .int .i64 ((k : Nat) : Int)]) H2)).trans (by rw [astore_to gT2 (by kernel_rfl), ← hH49_]; rfl)) ?_
              refine cf_go 3 ?_
              have gH49_T2_ : H49_.get (T2_) = some ⟨[(.slice pc k cc), .int .i64 0, .int .i64 0, .int .i64 0, .int .i64 0, (.slice po j co), .slice none 0 0, .int .i64 (-1), .int .u32 0, .int .i64 (-1), .int .i64 0, .int .u32 0, .int .i64 1, .int .i64 ((k : Nat) : Int)], 29, false⟩ := by rw [hH49_]; exact (Heap.get_put _ _ _ _).trans (if_pos rfl)
              have lc : (mkC ops az bs k).length = k := mkC_len ..
              have lo : (mkO outs k j).length = j := by unfold mkO; simp; omega
              have eN : mkN ops az bs = k := by unfold mkN; omega
              have eM : mkM outs k = j := hM.symm
              have eF : mkF fl k = (-1) := by unfold mkF; rw [if_neg (by omega)]
              rw [eN, eM, eF]
              refine cf_end (.agg #[(.slice pc k cc), .int .i64 0, .int .i64 0, .int .i64 0, .int .i64 0, (.slice po j co), .slice none 0 0, .int .i64 (-1), .int .u32 0, .int .i64 (-1), .int .i64 0, .int .u32 0, .int .i64 1, .int .i64 ((k : Nat) : Int)]) H49_ (by kernel_rfl) (ares_cell 2 29 (.pointer (some ⟨T2_, 0, none⟩)) H49_ (by kernel_rfl) (by kernel_rfl) (by kernel_rfl) ((aload_at gH49_T2_).trans (by kernel_rfl))) (by kernel_rfl) ?_
              exact ⟨pc, cc, po, co, by rw [lc, lo]; unfold mkW; first | rfl | (rw [if_pos hc5]; rfl) | (rw [if_neg (by rw [hc5]; decide)]; rfl), by rw [lc]; exact (Gr.keepX hgc2 gP2 gT2 (by decide) (by omega) (fun b hb1 hb2 hb3 hb4 => by rw [hH49_, Heap.get_put, if_neg (by omega)])), by rw [lo]; exact (Gr.keepX hgo gP2 gT2 (by decide) (by omega) (fun b hb1 hb2 hb3 hb4 => by rw [hH49_, Heap.get_put, if_neg (by omega)])), (show Up H.n H H49_ from ⟨by omega, fun b hb => by rw [hH49_, Heap.get_put, if_neg (by omega), uH2.get _ (by omega)]⟩)⟩
end Lm
end Go.Proofs.Ytahikechkggbfaa
