/- Chapter 19: which blocks may be. -/
import Derived.Test.YtgpphhdndmdlgaaDoorMo
namespace Go.Proofs.YtgpphhdndmdlgaaDoor
open Go Go.Ev Go.RowKit
set_option linter.unusedVariables false
set_option linter.unusedSimpArgs false
set_option maxRecDepth 100000
namespace Ls
noncomputable def f34b : Code := Tryd.f34.body.getD .skip
theorem f34_body : Tryd.f34.body = some f34b := by kernel_rfl
theorem f34_fn : T20.fn 34 = some Tryd.f34 := by kernel_rfl
set_option maxHeartbeats 1000000 in
theorem irmade_s {c : List II} {od rd : List Int} {nd nr hd hr fl nx tg br tk ct vs : Int} {k : Nat} {x : II} (hx : c[k]? = some x) (hi : 0 ≤ x.2.2.2.2 ∧ x.2.2.2.2 < 4294967296) (hk : c.length < 1000000) (hnd : 0 ≤ nd ∧ nd ≤ 16) (hnr : 0 ≤ nr ∧ nr ≤ 16) : SCall Tryd.prog T20 34 #[(pgV (s5 0 c.length) nd nr hd hr (s1 1 od.length) (s1 2 rd.length) fl nx tg br tk ct vs), .int .i64 (k : Int)] (hq [(iiCo c false), (inCo od false), (inCo rd false)]) fun v h => v = .bool (madeB nd nr x (k : Int)) ∧ h = hq [(iiCo c false), (inCo od false), (inCo rd false)] := by
 have hkl := (List.getElem?_eq_some_iff.1 hx).1
 refine scall_sd 95 _ 3 kr f34_fn f34_body rfl rfl rfl fun X hX => ?_
 refine sd_run 11 (sd_ix 11 (.pointer (some ⟨0, 0 + k * 5, none⟩)) k c.length kr kr kr (by omega) (sd_ld 12 (c5A x.1 x.2.1 x.2.2.1 x.2.2.2.1 x.2.2.2.2) 41 (.pointer (some ⟨0, 0 + k * 5, none⟩)) kr kr kr (ld_row (l := c) (e := 41) (ro := false) (k := k) iiC_len kr kr kr hx) (sd_run 13 ?_)))
 rcases Bool.eq_false_or_eq_true ((x.2.1 : Int) != (k : Int)) with hc1 | hc1
 ·skip
  refine sd_see 16 (.bool true) (see_bool kr hc1) (sd_run 8 ?_)
  refine sdY (.bool false) hX [(iiCo c false), (inCo od false), (inCo rd false)] i3_ ⟨iiC_b, inC_b, inC_b, ⟨⟩⟩ ⟨(by congr 1; (try simp at hc1); unfold madeB; simp [hc1] <;> (first | rfl | omega | (intros; omega) | (rw [Bool.eq_iff_iff]; simp; omega) | (intros; simp_all; done) | (simp_all; done))), rfl⟩
 ·skip
  refine sd_see 16 (.bool false) (see_bool kr hc1) (sd_run 4 (sd_mid 95 (cl (cr (cr (cr f34b)))) [.next (cr (cr (cr (cr f34b))))] kr kr kr (fun s9 => s9 = ⟨tmL [(1, .int .i64 (k : Int)), (2, .pointer (some ⟨3, 0, none⟩)), (5, .pointer (some ⟨4, 0, none⟩)), (6, .bool (valB x.2.2.1 (k : Int) && valB x.2.2.2.1 (k : Int)))], hq [(iiCo c false), (inCo od false), (inCo rd false), some ⟨(pgL (s5 0 c.length) nd nr hd hr (s1 1 od.length) (s1 2 rd.length) fl nx tg br tk ct vs), 32, false⟩, some ⟨(c5L x.1 x.2.1 x.2.2.1 x.2.2.2.1 x.2.2.2.2), 41, false⟩]⟩) hX ?_ ?_))
  ·intro R1_ hR1_
   refine sd_run 6 ?_
   rcases Bool.eq_false_or_eq_true (valB x.2.2.1 (k : Int)) with hc2 | hc2
   ·skip
    refine sd_see 21 (.bool true) (see_bool kr hc2) (sd_run 7 (sd_see 6 (.bool (valB x.2.2.1 (k : Int) && valB x.2.2.2.1 (k : Int))) (see_bool (x := (valB x.2.2.2.1 (k : Int))) kr (by (try simp at hc2); simp [hc2] <;> rfl)) ?_))
    refine sd_inv R1_ kr (hR1_ _ _ e5_ rfl ⟨sub_of kr kr ⟨iiC_b, inC_b, inC_b, brn, brn, ⟨⟩⟩, te_of kr kr⟩ kr)
   ·skip
    refine sd_see 21 (.bool false) (see_bool kr hc2) (sd_run 7 (sd_see 6 (.bool (valB x.2.2.1 (k : Int) && valB x.2.2.2.1 (k : Int))) (see_bool (x := false) kr (by (try simp at hc2); simp [hc2] <;> rfl)) ?_))
    refine sd_inv R1_ kr (hR1_ _ _ e5_ rfl ⟨sub_of kr kr ⟨iiC_b, inC_b, inC_b, brn, brn, ⟨⟩⟩, te_of kr kr⟩ kr)
  ·rintro s9 rfl
   refine sd_run 2 (sd_mid 95 (cl (cr (cr (cr (cr f34b))))) [.next (cr (cr (cr (cr (cr f34b)))))] kr kr kr (fun s9 => s9 = ⟨tmL [(2, .pointer (some ⟨3, 0, none⟩)), (5, .pointer (some ⟨4, 0, none⟩)), (6, .bool (valB x.2.2.1 (k : Int) && valB x.2.2.2.1 (k : Int))), (7, .bool (decide (x.2.2.1 = 0) && decide (x.2.2.2.1 = 0)))], hq [(iiCo c false), (inCo od false), (inCo rd false), some ⟨(pgL (s5 0 c.length) nd nr hd hr (s1 1 od.length) (s1 2 rd.length) fl nx tg br tk ct vs), 32, false⟩, some ⟨(c5L x.1 x.2.1 x.2.2.1 x.2.2.2.1 x.2.2.2.2), 41, false⟩]⟩) hX ?_ ?_)
   ·intro R2_ hR2_
    refine sd_run 5 ?_
    rcases Bool.eq_false_or_eq_true ((x.2.2.1 : Int) == 0) with hc3 | hc3
    ·skip
     refine sd_see 30 (.bool true) (see_bool kr hc3) (sd_run 6 (sd_see 7 (.bool (decide (x.2.2.1 = 0) && decide (x.2.2.2.1 = 0))) (see_bool (x := ((x.2.2.2.1 : Int) == 0)) kr (by (try simp at hc3); simp [hc3] <;> rfl)) ?_))
     refine sd_inv R2_ kr (hR2_ _ _ e5_ rfl ⟨sub_of kr kr ⟨iiC_b, inC_b, inC_b, brn, brn, ⟨⟩⟩, te_of kr kr⟩ kr)
    ·skip
     refine sd_see 30 (.bool false) (see_bool kr hc3) (sd_run 6 (sd_see 7 (.bool (decide (x.2.2.1 = 0) && decide (x.2.2.2.1 = 0))) (see_bool (x := false) kr (by (try simp at hc3); simp [hc3] <;> rfl)) ?_))
     refine sd_inv R2_ kr (hR2_ _ _ e5_ rfl ⟨sub_of kr kr ⟨iiC_b, inC_b, inC_b, brn, brn, ⟨⟩⟩, te_of kr kr⟩ kr)
   ·rintro s9 rfl
    refine sd_run 15 ?_
    rcases Bool.eq_false_or_eq_true ((x.1 : Int) == 0) with hc4 | hc4
    ·skip
     refine sd_see 37 (.bool true) (see_bool kr hc4) (sd_run 10 ?_)
     refine sdY (.bool (decide (x.2.2.1 = 0) && decide (x.2.2.2.1 = 0))) hX [(iiCo c false), (inCo od false), (inCo rd false)] i3_ ⟨iiC_b, inC_b, inC_b, ⟨⟩⟩ ⟨(by congr 1; (try simp at hc1 hc4); unfold madeB; simp [hc1, hc4] <;> (first | rfl | omega | (intros; omega) | (rw [Bool.eq_iff_iff]; simp; omega) | (intros; simp_all; done) | (simp_all; done))), rfl⟩
    ·skip
     refine sd_see 37 (.bool false) (see_bool kr hc4) (sd_run 7 ?_)
     rcases Bool.eq_false_or_eq_true ((x.1 : Int) == 1) with hc5 | hc5
     ·skip
      refine sd_see 40 (.bool true) (see_bool kr hc5) (sd_run 5 ?_)
      rcases Bool.eq_false_or_eq_true (decide (x.2.2.1 = 0) && decide (x.2.2.2.1 = 0)) with hc6 | hc6
      ·skip
       refine sd_see 43 (.bool true) (see_bool kr hc6) (sd_run 3 (sd_see 46 (.int .u64 x.2.2.2.2) (see_int (x := IntKind.u64.wrap x.2.2.2.2) kr (wu64 rfl (by omega) (by omega))) (sd_run 3 (sd_see 49 (.int .u64 nd) (see_int (x := IntKind.u64.wrap nd) kr (wu64 rfl (by omega) (by omega))) (sd_run 8 ?_)))))
       refine sdY (.bool (decide ((x.2.2.2.2 : Int) < nd))) hX [(iiCo c false), (inCo od false), (inCo rd false)] i3_ ⟨iiC_b, inC_b, inC_b, ⟨⟩⟩ ⟨(by congr 1; (try simp at hc1 hc4 hc5 hc6); unfold madeB; simp [hc1, hc4, hc5, hc6] <;> (first | rfl | omega | (intros; omega) | (rw [Bool.eq_iff_iff]; simp; omega) | (intros; simp_all; done) | (simp_all; done))), rfl⟩
      ·skip
       refine sd_see 43 (.bool false) (see_bool kr hc6) (sd_run 14 ?_)
       refine sdY (.bool false) hX [(iiCo c false), (inCo od false), (inCo rd false)] i3_ ⟨iiC_b, inC_b, inC_b, ⟨⟩⟩ ⟨(by congr 1; (try simp at hc1 hc4 hc5 hc6); unfold madeB; simp [hc1, hc4, hc5, hc6] <;> (first | rfl | omega | (intros; omega) | (rw [Bool.eq_iff_iff]; simp; omega) | (intros; simp_all; done) | (simp_all; done))), rfl⟩
     ·skip
      refine sd_see 40 (.bool false) (see_bool kr hc5) (sd_run 7 ?_)
      rcases Bool.eq_false_or_eq_true ((x.1 : Int) == 2) with hc7 | hc7
      ·skip
       refine sd_see 52 (.bool true) (see_bool kr hc7) (sd_run 5 ?_)
       rcases Bool.eq_false_or_eq_true (decide (x.2.2.1 = 0) && decide (x.2.2.2.1 = 0)) with hc8 | hc8
       ·skip
        refine sd_see 55 (.bool true) (see_bool kr hc8) (sd_run 3 (sd_see 58 (.int .u64 x.2.2.2.2) (see_int (x := IntKind.u64.wrap x.2.2.2.2) kr (wu64 rfl (by omega) (by omega))) (sd_run 3 (sd_see 61 (.int .u64 nr) (see_int (x := IntKind.u64.wrap nr) kr (wu64 rfl (by omega) (by omega))) (sd_run 8 ?_)))))
        refine sdY (.bool (decide ((x.2.2.2.2 : Int) < nr))) hX [(iiCo c false), (inCo od false), (inCo rd false)] i3_ ⟨iiC_b, inC_b, inC_b, ⟨⟩⟩ ⟨(by congr 1; (try simp at hc1 hc4 hc5 hc7 hc8); unfold madeB; simp [hc1, hc4, hc5, hc7, hc8] <;> (first | rfl | omega | (intros; omega) | (rw [Bool.eq_iff_iff]; simp; omega) | (intros; simp_all; done) | (simp_all; done))), rfl⟩
       ·skip
        refine sd_see 55 (.bool false) (see_bool kr hc8) (sd_run 14 ?_)
        refine sdY (.bool false) hX [(iiCo c false), (inCo od false), (inCo rd false)] i3_ ⟨iiC_b, inC_b, inC_b, ⟨⟩⟩ ⟨(by congr 1; (try simp at hc1 hc4 hc5 hc7 hc8); unfold madeB; simp [hc1, hc4, hc5, hc7, hc8] <;> (first | rfl | omega | (intros; omega) | (rw [Bool.eq_iff_iff]; simp; omega) | (intros; simp_all; done) | (simp_all; done))), rfl⟩
      ·skip
       refine sd_see 52 (.bool false) (see_bool kr hc7) (sd_run 7 ?_)
       rcases Bool.eq_false_or_eq_true ((x.1 : Int) == 3) with hc9 | hc9
       ·skip
        refine sd_see 64 (.bool true) (see_bool kr hc9) (sd_run 5 ?_)
        rcases Bool.eq_false_or_eq_true (valB x.2.2.1 (k : Int) && valB x.2.2.2.1 (k : Int)) with hc10 | hc10
        ·skip
         refine sd_see 67 (.bool true) (see_bool kr hc10) (sd_run 5 ?_)
         rcases Bool.eq_false_or_eq_true (decide ((x.2.2.2.2 : Int) ≥ 16)) with hc11 | hc11
         ·skip
          refine sd_see 72 (.bool true) (see_bool kr hc11) (sd_run 10 ?_)
          refine sdY (.bool (decide ((x.2.2.2.2 : Int) ≤ 23))) hX [(iiCo c false), (inCo od false), (inCo rd false)] i3_ ⟨iiC_b, inC_b, inC_b, ⟨⟩⟩ ⟨(by congr 1; (try simp at hc1 hc4 hc5 hc7 hc9 hc10 hc11); unfold madeB; simp [hc1, hc4, hc5, hc7, hc9, hc10, hc11] <;> (first | rfl | omega | (intros; omega) | (rw [Bool.eq_iff_iff]; simp; omega) | (intros; simp_all; done) | (simp_all; done))), rfl⟩
         ·skip
          refine sd_see 72 (.bool false) (see_bool kr hc11) (sd_run 10 ?_)
          refine sdY (.bool false) hX [(iiCo c false), (inCo od false), (inCo rd false)] i3_ ⟨iiC_b, inC_b, inC_b, ⟨⟩⟩ ⟨(by congr 1; (try simp at hc1 hc4 hc5 hc7 hc9 hc10 hc11); unfold madeB; simp [hc1, hc4, hc5, hc7, hc9, hc10, hc11] <;> (first | rfl | omega | (intros; omega) | (rw [Bool.eq_iff_iff]; simp; omega) | (intros; simp_all; done) | (simp_all; done))), rfl⟩
        ·skip
         refine sd_see 67 (.bool false) (see_bool kr hc10) (sd_run 15 ?_)
         refine sdY (.bool false) hX [(iiCo c false), (inCo od false), (inCo rd false)] i3_ ⟨iiC_b, inC_b, inC_b, ⟨⟩⟩ ⟨(by congr 1; (try simp at hc1 hc4 hc5 hc7 hc9 hc10); unfold madeB; simp [hc1, hc4, hc5, hc7, hc9, hc10] <;> (first | rfl | omega | (intros; omega) | (rw [Bool.eq_iff_iff]; simp; omega) | (intros; simp_all; done) | (simp_all; done))), rfl⟩
       ·skip
        refine sd_see 64 (.bool false) (see_bool kr hc9) (sd_run 7 ?_)
        rcases Bool.eq_false_or_eq_true ((x.1 : Int) == 4) with hc12 | hc12
        ·skip
         refine sd_see 77 (.bool true) (see_bool kr hc12) (sd_run 5 ?_)
         rcases Bool.eq_false_or_eq_true (valB x.2.2.1 (k : Int) && valB x.2.2.2.1 (k : Int)) with hc13 | hc13
         ·skip
          refine sd_see 80 (.bool true) (see_bool kr hc13) (sd_run 4 ?_)
          rcases Bool.eq_false_or_eq_true (decide ((x.2.2.2.2 : Int) ≥ 16)) with hc14 | hc14
          ·skip
           refine sd_see 84 (.bool true) (see_bool kr hc14) (sd_run 5 ?_)
           rcases Bool.eq_false_or_eq_true (decide ((x.2.2.2.2 : Int) ≤ 23)) with hc15 | hc15
           ·skip
            refine sd_see 89 (.bool true) (see_bool kr hc15) (sd_run 11 ?_)
            refine sdY (.bool true) hX [(iiCo c false), (inCo od false), (inCo rd false)] i3_ ⟨iiC_b, inC_b, inC_b, ⟨⟩⟩ ⟨(by congr 1; (try simp at hc1 hc4 hc5 hc7 hc9 hc12 hc13 hc14 hc15); unfold madeB; simp [hc1, hc4, hc5, hc7, hc9, hc12, hc13, hc14, hc15] <;> (first | rfl | omega | (intros; omega) | (rw [Bool.eq_iff_iff]; simp; omega) | (intros; simp_all; done) | (simp_all; done))), rfl⟩
           ·skip
            refine sd_see 89 (.bool false) (see_bool kr hc15) (sd_run 11 ?_)
            refine sdY (.bool ((x.2.2.2.2 : Int) == 25)) hX [(iiCo c false), (inCo od false), (inCo rd false)] i3_ ⟨iiC_b, inC_b, inC_b, ⟨⟩⟩ ⟨(by congr 1; (try simp at hc1 hc4 hc5 hc7 hc9 hc12 hc13 hc14 hc15); unfold madeB; simp [hc1, hc4, hc5, hc7, hc9, hc12, hc13, hc14, hc15] <;> (first | rfl | omega | (intros; omega) | (rw [Bool.eq_iff_iff]; simp; omega) | (intros; simp_all; done) | (simp_all; done))), rfl⟩
          ·skip
           refine sd_see 84 (.bool false) (see_bool kr hc14) (sd_run 16 ?_)
           refine sdY (.bool ((x.2.2.2.2 : Int) == 25)) hX [(iiCo c false), (inCo od false), (inCo rd false)] i3_ ⟨iiC_b, inC_b, inC_b, ⟨⟩⟩ ⟨(by congr 1; (try simp at hc1 hc4 hc5 hc7 hc9 hc12 hc13 hc14); unfold madeB; simp [hc1, hc4, hc5, hc7, hc9, hc12, hc13, hc14] <;> (first | rfl | omega | (intros; omega) | (rw [Bool.eq_iff_iff]; simp; omega) | (intros; simp_all; done) | (simp_all; done))), rfl⟩
         ·skip
          refine sd_see 80 (.bool false) (see_bool kr hc13) (sd_run 20 ?_)
          refine sdY (.bool false) hX [(iiCo c false), (inCo od false), (inCo rd false)] i3_ ⟨iiC_b, inC_b, inC_b, ⟨⟩⟩ ⟨(by congr 1; (try simp at hc1 hc4 hc5 hc7 hc9 hc12 hc13); unfold madeB; simp [hc1, hc4, hc5, hc7, hc9, hc12, hc13] <;> (first | rfl | omega | (intros; omega) | (rw [Bool.eq_iff_iff]; simp; omega) | (intros; simp_all; done) | (simp_all; done))), rfl⟩
        ·skip
         refine sd_see 77 (.bool false) (see_bool kr hc12) (sd_run 10 ?_)
         refine sdY (.bool false) hX [(iiCo c false), (inCo od false), (inCo rd false)] i3_ ⟨iiC_b, inC_b, inC_b, ⟨⟩⟩ ⟨(by congr 1; (try simp at hc1 hc4 hc5 hc7 hc9 hc12); unfold madeB; simp [hc1, hc4, hc5, hc7, hc9, hc12] <;> (first | rfl | omega | (intros; omega) | (rw [Bool.eq_iff_iff]; simp; omega) | (intros; simp_all; done) | (simp_all; done))), rfl⟩
noncomputable def f16b : Code := Tryd.f16.body.getD .skip
theorem f16_body : Tryd.f16.body = some f16b := by kernel_rfl
theorem f16_fn : T20.fn 16 = some Tryd.f16 := by kernel_rfl
set_option maxHeartbeats 4000000 in
theorem right_s {c : List II} {od rd : List Int} {nd nr hd hr fl nx tg br tk ct vs : Int} (hcl : c.length < 1099511627776) (hol : od.length < 1099511627776) (hrl : rd.length < 1099511627776) (hi : ∀ x ∈ c, 0 ≤ x.2.2.2.2 ∧ x.2.2.2.2 < 4294967296) : SCall Tryd.prog T20 16 #[(pgV (s5 0 c.length) nd nr hd hr (s1 1 od.length) (s1 2 rd.length) fl nx tg br tk ct vs)] (hq [(iiCo c false), (inCo od false), (inCo rd false)]) fun v h => v = .bool (rightB c od rd nd nr hd hr fl tg br ct vs) ∧ h = hq [(iiCo c false), (inCo od false), (inCo rd false)] := by
 refine scall_sd 118 _ 3 kr f16_fn f16_body rfl rfl rfl fun X hX => ?_
 refine sd_run 16 ?_
 rcases Bool.eq_false_or_eq_true ((vs : Int) != (c.length : Int)) with hc1 | hc1
 ·skip
  refine sd_see 14 (.bool true) (see_bool kr hc1) (sd_run 37 ?_)
  have hR : rightB c od rd nd nr hd hr fl tg br ct vs = false := rightB_no fun h9 => by
   have qvs_ := h9.vs_; have qlen := h9.len; have qnd_ := h9.nd_; have qnr_ := h9.nr_; have qhd_ := h9.hd_; have qhr_ := h9.hr_; have qct_ := h9.ct_; have qfl_ := h9.fl_; have qtg_ := h9.tg_; have qbr_ := h9.br_
   (try simp at hc1); first | omega | (simp_all; done) | (simp_all; omega)
  refine sdY (.bool false) hX [(iiCo c false), (inCo od false), (inCo rd false)] i3_ ⟨iiC_b, inC_b, inC_b, ⟨⟩⟩ ⟨(by rw [hR]), rfl⟩
 ·skip
  refine sd_see 14 (.bool false) (see_bool kr hc1) (sd_run 5 ?_)
  rcases Bool.eq_false_or_eq_true (decide ((vs : Int) > 64)) with hc2 | hc2
  ·skip
   refine sd_see 19 (.bool true) (see_bool kr hc2) (sd_run 32 ?_)
   have hR : rightB c od rd nd nr hd hr fl tg br ct vs = false := rightB_no fun h9 => by
    have qvs_ := h9.vs_; have qlen := h9.len; have qnd_ := h9.nd_; have qnr_ := h9.nr_; have qhd_ := h9.hd_; have qhr_ := h9.hr_; have qct_ := h9.ct_; have qfl_ := h9.fl_; have qtg_ := h9.tg_; have qbr_ := h9.br_
    (try simp at hc1 hc2); first | omega | (simp_all; done) | (simp_all; omega)
   refine sdY (.bool false) hX [(iiCo c false), (inCo od false), (inCo rd false)] i3_ ⟨iiC_b, inC_b, inC_b, ⟨⟩⟩ ⟨(by rw [hR]), rfl⟩
  ·skip
   refine sd_see 19 (.bool false) (see_bool kr hc2) (sd_run 48 ?_)
   rcases Bool.eq_false_or_eq_true (decide ((nd : Int) < 0)) with hc3 | hc3
   ·skip
    refine sd_see 13 (.bool true) (see_bool kr hc3) (sd_run 40 ?_)
    have hR : rightB c od rd nd nr hd hr fl tg br ct vs = false := rightB_no fun h9 => by
     have qvs_ := h9.vs_; have qlen := h9.len; have qnd_ := h9.nd_; have qnr_ := h9.nr_; have qhd_ := h9.hd_; have qhr_ := h9.hr_; have qct_ := h9.ct_; have qfl_ := h9.fl_; have qtg_ := h9.tg_; have qbr_ := h9.br_
     (try simp at hc1 hc2 hc3); first | omega | (simp_all; done) | (simp_all; omega)
    refine sdY (.bool false) hX [(iiCo c false), (inCo od false), (inCo rd false)] i3_ ⟨iiC_b, inC_b, inC_b, ⟨⟩⟩ ⟨(by rw [hR]), rfl⟩
   ·skip
    refine sd_see 13 (.bool false) (see_bool kr hc3) (sd_run 5 ?_)
    rcases Bool.eq_false_or_eq_true (decide ((nd : Int) > 16)) with hc4 | hc4
    ·skip
     refine sd_see 16 (.bool true) (see_bool kr hc4) (sd_run 35 ?_)
     have hR : rightB c od rd nd nr hd hr fl tg br ct vs = false := rightB_no fun h9 => by
      have qvs_ := h9.vs_; have qlen := h9.len; have qnd_ := h9.nd_; have qnr_ := h9.nr_; have qhd_ := h9.hd_; have qhr_ := h9.hr_; have qct_ := h9.ct_; have qfl_ := h9.fl_; have qtg_ := h9.tg_; have qbr_ := h9.br_
      (try simp at hc1 hc2 hc3 hc4); first | omega | (simp_all; done) | (simp_all; omega)
     refine sdY (.bool false) hX [(iiCo c false), (inCo od false), (inCo rd false)] i3_ ⟨iiC_b, inC_b, inC_b, ⟨⟩⟩ ⟨(by rw [hR]), rfl⟩
    ·skip
     refine sd_see 16 (.bool false) (see_bool kr hc4) (sd_run 33 ?_)
     rcases Bool.eq_false_or_eq_true (decide ((nr : Int) < 0)) with hc5 | hc5
     ·skip
      refine sd_see 13 (.bool true) (see_bool kr hc5) (sd_run 40 ?_)
      have hR : rightB c od rd nd nr hd hr fl tg br ct vs = false := rightB_no fun h9 => by
       have qvs_ := h9.vs_; have qlen := h9.len; have qnd_ := h9.nd_; have qnr_ := h9.nr_; have qhd_ := h9.hd_; have qhr_ := h9.hr_; have qct_ := h9.ct_; have qfl_ := h9.fl_; have qtg_ := h9.tg_; have qbr_ := h9.br_
       (try simp at hc1 hc2 hc3 hc4 hc5); first | omega | (simp_all; done) | (simp_all; omega)
      refine sdY (.bool false) hX [(iiCo c false), (inCo od false), (inCo rd false)] i3_ ⟨iiC_b, inC_b, inC_b, ⟨⟩⟩ ⟨(by rw [hR]), rfl⟩
     ·skip
      refine sd_see 13 (.bool false) (see_bool kr hc5) (sd_run 5 ?_)
      rcases Bool.eq_false_or_eq_true (decide ((nr : Int) > 16)) with hc6 | hc6
      ·skip
       refine sd_see 16 (.bool true) (see_bool kr hc6) (sd_run 35 ?_)
       have hR : rightB c od rd nd nr hd hr fl tg br ct vs = false := rightB_no fun h9 => by
        have qvs_ := h9.vs_; have qlen := h9.len; have qnd_ := h9.nd_; have qnr_ := h9.nr_; have qhd_ := h9.hd_; have qhr_ := h9.hr_; have qct_ := h9.ct_; have qfl_ := h9.fl_; have qtg_ := h9.tg_; have qbr_ := h9.br_
        (try simp at hc1 hc2 hc3 hc4 hc5 hc6); first | omega | (simp_all; done) | (simp_all; omega)
       refine sdY (.bool false) hX [(iiCo c false), (inCo od false), (inCo rd false)] i3_ ⟨iiC_b, inC_b, inC_b, ⟨⟩⟩ ⟨(by rw [hR]), rfl⟩
      ·skip
       refine sd_see 16 (.bool false) (see_bool kr hc6) (sd_run 33 ?_)
       rcases Bool.eq_false_or_eq_true (decide ((hd : Int) < 0)) with hc7 | hc7
       ·skip
        refine sd_see 13 (.bool true) (see_bool kr hc7) (sd_run 40 ?_)
        have hR : rightB c od rd nd nr hd hr fl tg br ct vs = false := rightB_no fun h9 => by
         have qvs_ := h9.vs_; have qlen := h9.len; have qnd_ := h9.nd_; have qnr_ := h9.nr_; have qhd_ := h9.hd_; have qhr_ := h9.hr_; have qct_ := h9.ct_; have qfl_ := h9.fl_; have qtg_ := h9.tg_; have qbr_ := h9.br_
         (try simp at hc1 hc2 hc3 hc4 hc5 hc6 hc7); first | omega | (simp_all; done) | (simp_all; omega)
        refine sdY (.bool false) hX [(iiCo c false), (inCo od false), (inCo rd false)] i3_ ⟨iiC_b, inC_b, inC_b, ⟨⟩⟩ ⟨(by rw [hR]), rfl⟩
       ·skip
        refine sd_see 13 (.bool false) (see_bool kr hc7) (sd_run 5 ?_)
        rcases Bool.eq_false_or_eq_true (decide ((hd : Int) > 16)) with hc8 | hc8
        ·skip
         refine sd_see 16 (.bool true) (see_bool kr hc8) (sd_run 35 ?_)
         have hR : rightB c od rd nd nr hd hr fl tg br ct vs = false := rightB_no fun h9 => by
          have qvs_ := h9.vs_; have qlen := h9.len; have qnd_ := h9.nd_; have qnr_ := h9.nr_; have qhd_ := h9.hd_; have qhr_ := h9.hr_; have qct_ := h9.ct_; have qfl_ := h9.fl_; have qtg_ := h9.tg_; have qbr_ := h9.br_
          (try simp at hc1 hc2 hc3 hc4 hc5 hc6 hc7 hc8); first | omega | (simp_all; done) | (simp_all; omega)
         refine sdY (.bool false) hX [(iiCo c false), (inCo od false), (inCo rd false)] i3_ ⟨iiC_b, inC_b, inC_b, ⟨⟩⟩ ⟨(by rw [hR]), rfl⟩
        ·skip
         refine sd_see 16 (.bool false) (see_bool kr hc8) (sd_run 33 ?_)
         rcases Bool.eq_false_or_eq_true (decide ((hr : Int) < 0)) with hc9 | hc9
         ·skip
          refine sd_see 13 (.bool true) (see_bool kr hc9) (sd_run 40 ?_)
          have hR : rightB c od rd nd nr hd hr fl tg br ct vs = false := rightB_no fun h9 => by
           have qvs_ := h9.vs_; have qlen := h9.len; have qnd_ := h9.nd_; have qnr_ := h9.nr_; have qhd_ := h9.hd_; have qhr_ := h9.hr_; have qct_ := h9.ct_; have qfl_ := h9.fl_; have qtg_ := h9.tg_; have qbr_ := h9.br_
           (try simp at hc1 hc2 hc3 hc4 hc5 hc6 hc7 hc8 hc9); first | omega | (simp_all; done) | (simp_all; omega)
          refine sdY (.bool false) hX [(iiCo c false), (inCo od false), (inCo rd false)] i3_ ⟨iiC_b, inC_b, inC_b, ⟨⟩⟩ ⟨(by rw [hR]), rfl⟩
         ·skip
          refine sd_see 13 (.bool false) (see_bool kr hc9) (sd_run 5 ?_)
          rcases Bool.eq_false_or_eq_true (decide ((hr : Int) > 16)) with hc10 | hc10
          ·skip
           refine sd_see 16 (.bool true) (see_bool kr hc10) (sd_run 35 ?_)
           have hR : rightB c od rd nd nr hd hr fl tg br ct vs = false := rightB_no fun h9 => by
            have qvs_ := h9.vs_; have qlen := h9.len; have qnd_ := h9.nd_; have qnr_ := h9.nr_; have qhd_ := h9.hd_; have qhr_ := h9.hr_; have qct_ := h9.ct_; have qfl_ := h9.fl_; have qtg_ := h9.tg_; have qbr_ := h9.br_
            (try simp at hc1 hc2 hc3 hc4 hc5 hc6 hc7 hc8 hc9 hc10); first | omega | (simp_all; done) | (simp_all; omega)
           refine sdY (.bool false) hX [(iiCo c false), (inCo od false), (inCo rd false)] i3_ ⟨iiC_b, inC_b, inC_b, ⟨⟩⟩ ⟨(by rw [hR]), rfl⟩
          ·skip
           refine sd_see 16 (.bool false) (see_bool kr hc10) (sd_run 37 ?_)
           rcases Bool.eq_false_or_eq_true (decide ((ct : Int) < 1)) with hc11 | hc11
           ·skip
            refine sd_see 37 (.bool true) (see_bool kr hc11) (sd_run 14 ?_)
            have hR : rightB c od rd nd nr hd hr fl tg br ct vs = false := rightB_no fun h9 => by
             have qvs_ := h9.vs_; have qlen := h9.len; have qnd_ := h9.nd_; have qnr_ := h9.nr_; have qhd_ := h9.hd_; have qhr_ := h9.hr_; have qct_ := h9.ct_; have qfl_ := h9.fl_; have qtg_ := h9.tg_; have qbr_ := h9.br_
             (try simp at hc1 hc2 hc3 hc4 hc5 hc6 hc7 hc8 hc9 hc10 hc11); first | omega | (simp_all; done) | (simp_all; omega)
            refine sdY (.bool false) hX [(iiCo c false), (inCo od false), (inCo rd false)] i3_ ⟨iiC_b, inC_b, inC_b, ⟨⟩⟩ ⟨(by rw [hR]), rfl⟩
           ·skip
            refine sd_see 37 (.bool false) (see_bool kr hc11) (sd_run 6 ?_)
            rcases Bool.eq_false_or_eq_true (decide ((ct : Int) > 8)) with hc12 | hc12
            ·skip
             refine sd_see 41 (.bool true) (see_bool kr hc12) (sd_run 8 ?_)
             have hR : rightB c od rd nd nr hd hr fl tg br ct vs = false := rightB_no fun h9 => by
              have qvs_ := h9.vs_; have qlen := h9.len; have qnd_ := h9.nd_; have qnr_ := h9.nr_; have qhd_ := h9.hd_; have qhr_ := h9.hr_; have qct_ := h9.ct_; have qfl_ := h9.fl_; have qtg_ := h9.tg_; have qbr_ := h9.br_
              (try simp at hc1 hc2 hc3 hc4 hc5 hc6 hc7 hc8 hc9 hc10 hc11 hc12); first | omega | (simp_all; done) | (simp_all; omega)
             refine sdY (.bool false) hX [(iiCo c false), (inCo od false), (inCo rd false)] i3_ ⟨iiC_b, inC_b, inC_b, ⟨⟩⟩ ⟨(by rw [hR]), rfl⟩
            ·skip
             refine sd_see 41 (.bool false) (see_bool kr hc12) (sd_run 13 ?_)
             have phc1 := hc1
             (try simp at phc1)
             have phc2 := hc2
             (try simp at phc2)
             have phc3 := hc3
             (try simp at phc3)
             have phc4 := hc4
             (try simp at phc4)
             have phc5 := hc5
             (try simp at phc5)
             have phc6 := hc6
             (try simp at phc6)
             have phc7 := hc7
             (try simp at phc7)
             have phc8 := hc8
             (try simp at phc8)
             have phc9 := hc9
             (try simp at phc9)
             have phc10 := hc10
             (try simp at phc10)
             have phc11 := hc11
             (try simp at phc11)
             have phc12 := hc12
             (try simp at phc12)
             refine sd_loop 118 (cl (cl (cr (cl (cr (cr f16b)))))) [.blk 0, .next (cr (cr (cr f16b)))] kr kr kr (fun m9 s9 => ∃ (k : Nat), m9 = c.length - k ∧ (k ≤ c.length) ∧ (∀ (j : Nat) (x : II), j < k → c[j]? = some x → madeB nd nr x (j : Int) = true) ∧ s9 = ⟨tmL [(1, .pointer (some ⟨3, 0, none⟩)), (44, .int .i64 (c.length : Int)), (45, .int .i64 (k : Int))], hq [(iiCo c false), (inCo od false), (inCo rd false), some ⟨(pgL (s5 0 c.length) nd nr hd hr (s1 1 od.length) (s1 2 rd.length) fl nx tg br tk ct vs), 32, false⟩]⟩) (c.length - 0) _ e4_ hX ⟨0, rfl, (by omega), (fun j x hj => by omega), rfl⟩ ⟨sub_of kr kr ⟨iiC_b, inC_b, inC_b, brn, ⟨⟩⟩, te_of kr kr⟩ kr ?_
             rintro m9 s9 ⟨k, rfl, i1_0, i1_1, rfl⟩ R1_ hR1_
             by_cases hlt : k < c.length
             ·skip
              obtain ⟨a13, ha13⟩ : ∃ x_, (c)[k]? = some x_ := ⟨_, List.getElem?_eq_getElem (by omega)⟩
              have ia13 := hi _ (List.mem_of_getElem? ha13)
              refine sd_run 3 (sdT 46 ((k : Int) < (c.length : Int)) (by omega) kr (sd_run 18 (sdCp 50 34 #[(pgV (s5 0 c.length) nd nr hd hr (s1 1 od.length) (s1 2 rd.length) fl nx tg br tk ct vs), .int .i64 (k : Int)] (@irmade_s c od rd nd nr hd hr fl nx tg br tk ct vs k a13 ha13 ia13 (by omega) (by omega) (by omega)) i3_ ⟨iiC_b, inC_b, inC_b, ⟨⟩⟩ ?_)))
              rintro v9 k9 ⟨rfl, rfl⟩
              refine ⟨rfl, .bool (madeB nd nr a13 (k : Int)), kr, ?_⟩
              rcases Bool.eq_false_or_eq_true (madeB nd nr a13 (k : Int)) with hc14 | hc14
              ·skip
               refine sd_see 50 (.bool true) (see_bool kr hc14) (sd_run 9 (sd_see 52 (.int .i64 ((k + 1 : Nat) : Int)) (see_int (x := (IntKind.i64.wrap ((k : Int) + 1))) kr (w64 (by omega) (by omega) (by omega))) (sd_run 2 ?_)))
               refine sd_inv R1_ kr (hR1_ _ (c.length - (k + 1)) _ e4_ (by omega) ⟨k + 1, rfl, (by omega), (fun j x hj hx => by rcases (by omega : j < k ∨ j = k) with q | rfl; exact i1_1 j x q hx; rw [ha13] at hx; cases hx; assumption), rfl⟩ ⟨sub_of kr kr ⟨iiC_b, inC_b, inC_b, brn, ⟨⟩⟩, te_of kr kr⟩ kr)
              ·skip
               refine sd_see 50 (.bool false) (see_bool kr hc14) (sd_run 15 ?_)
               have hR : rightB c od rd nd nr hd hr fl tg br ct vs = false := rightB_no fun h9 => by
                have qvs_ := h9.vs_; have qlen := h9.len; have qnd_ := h9.nd_; have qnr_ := h9.nr_; have qhd_ := h9.hd_; have qhr_ := h9.hr_; have qct_ := h9.ct_; have qfl_ := h9.fl_; have qtg_ := h9.tg_; have qbr_ := h9.br_
                have q := h9.code k a13 ha13; simp_all
               refine sdY (.bool false) hX [(iiCo c false), (inCo od false), (inCo rd false)] i3_ ⟨iiC_b, inC_b, inC_b, ⟨⟩⟩ ⟨(by rw [hR]), rfl⟩
             ·skip
              have hke : k = c.length := by omega
              refine sd_run 3 (sdF 46 ((k : Int) < (c.length : Int)) (by omega) kr (sd_run 49 ?_))
              refine sd_loop 118 (cl (cl (cr (cr (cl (cl (cr (cr (cl (cl (cr (cl (cr (cr (cr f16b))))))))))))))) [.blk 4, .blk 3, .next (cr (cr (cr (cl (cl (cr (cl (cr (cr (cr f16b)))))))))), .loop (cl (cl (cr (cl (cr (cr (cr f16b))))))), .blk 2, .next (cr (cr (cr (cr f16b))))] kr kr kr (fun m9 s9 => ∃ (j : Nat), m9 = od.length - j ∧ (j ≤ od.length) ∧ (∀ (i : Nat) (x : Int), i < j → od[i]? = some x → valB x vs = true) ∧ s9 = ⟨tmL [(1, .pointer (some ⟨3, 0, none⟩)), (57, .slice (some ⟨4, 0, none⟩) 2 2), (58, .int .i64 2), (59, .int .i64 0), (63, (s1 1 od.length)), (64, .int .i64 (od.length : Int)), (65, .int .i64 (j : Int))], hq [(iiCo c false), (inCo od false), (inCo rd false), some ⟨(pgL (s5 0 c.length) nd nr hd hr (s1 1 od.length) (s1 2 rd.length) fl nx tg br tk ct vs), 32, false⟩, some ⟨[(s1 1 od.length), (s1 2 rd.length)], 22, false⟩]⟩) (od.length - 0) _ e5_ hX ⟨0, rfl, (by omega), (fun j x hj => by omega), rfl⟩ ⟨sub_of kr kr ⟨iiC_b, inC_b, inC_b, brn, brn, ⟨⟩⟩, te_of kr kr⟩ kr ?_
              rintro m9 s9 ⟨j, rfl, i2_0, i2_1, rfl⟩ R2_ hR2_
              by_cases hlt_od : j < od.length
              ·skip
               obtain ⟨a15, ha15⟩ : ∃ x_, (od)[j]? = some x_ := ⟨_, List.getElem?_eq_getElem (by omega)⟩
               refine sd_run 3 (sdT 66 ((j : Int) < (od.length : Int)) (by omega) kr (sd_run 10 (sd_ix 67 (.pointer (some ⟨1, 0 + j * 1, none⟩)) j od.length kr kr kr (by omega) (sd_ld 68 (.int .i64 a15) 3 (.pointer (some ⟨1, 0 + j * 1, none⟩)) kr kr kr (ld_cell (l := od) (e := 3) (ro := false) (k := j) (j := 0) inC_len kr kr kr ha15 rfl) (sd_run 9 ?_)))))
               rcases Bool.eq_false_or_eq_true (valB a15 vs) with hc16 | hc16
               ·skip
                refine sd_see 72 (.bool true) (see_bool kr hc16) (sd_run 9 (sd_see 74 (.int .i64 ((j + 1 : Nat) : Int)) (see_int (x := (IntKind.i64.wrap ((j : Int) + 1))) kr (w64 (by omega) (by omega) (by omega))) (sd_run 2 ?_)))
                refine sd_inv R2_ kr (hR2_ _ (od.length - (j + 1)) _ e5_ (by omega) ⟨j + 1, rfl, (by omega), (fun i x hj hx => by rcases (by omega : i < j ∨ i = j) with q | rfl; exact i2_1 i x q hx; rw [ha15] at hx; cases hx; assumption), rfl⟩ ⟨sub_of kr kr ⟨iiC_b, inC_b, inC_b, brn, brn, ⟨⟩⟩, te_of kr kr⟩ kr)
               ·skip
                refine sd_see 72 (.bool false) (see_bool kr hc16) (sd_run 19 ?_)
                have hR : rightB c od rd nd nr hd hr fl tg br ct vs = false := rightB_no fun h9 => by
                 have qvs_ := h9.vs_; have qlen := h9.len; have qnd_ := h9.nd_; have qnr_ := h9.nr_; have qhd_ := h9.hd_; have qhr_ := h9.hr_; have qct_ := h9.ct_; have qfl_ := h9.fl_; have qtg_ := h9.tg_; have qbr_ := h9.br_
                 have q := h9.od_ j a15 ha15; simp_all
                refine sdY (.bool false) hX [(iiCo c false), (inCo od false), (inCo rd false)] i3_ ⟨iiC_b, inC_b, inC_b, ⟨⟩⟩ ⟨(by rw [hR]), rfl⟩
              ·skip
               have hje_od : j = od.length := by omega
               refine sd_run 3 (sdF 66 ((j : Int) < (od.length : Int)) (by omega) kr (sd_run 42 ?_))
               refine sd_loop 118 (cl (cl (cr (cr (cl (cl (cr (cr (cl (cl (cr (cl (cr (cr (cr f16b))))))))))))))) [.blk 4, .blk 3, .next (cr (cr (cr (cl (cl (cr (cl (cr (cr (cr f16b)))))))))), .loop (cl (cl (cr (cl (cr (cr (cr f16b))))))), .blk 2, .next (cr (cr (cr (cr f16b))))] kr kr kr (fun m9 s9 => ∃ (j : Nat), m9 = rd.length - j ∧ (j ≤ rd.length) ∧ (∀ (i : Nat) (x : Int), i < j → rd[i]? = some x → valB x vs = true) ∧ s9 = ⟨tmL [(1, .pointer (some ⟨3, 0, none⟩)), (57, .slice (some ⟨4, 0, none⟩) 2 2), (58, .int .i64 2), (59, .int .i64 1), (63, (s1 2 rd.length)), (64, .int .i64 (rd.length : Int)), (65, .int .i64 (j : Int))], hq [(iiCo c false), (inCo od false), (inCo rd false), some ⟨(pgL (s5 0 c.length) nd nr hd hr (s1 1 od.length) (s1 2 rd.length) fl nx tg br tk ct vs), 32, false⟩, some ⟨[(s1 1 od.length), (s1 2 rd.length)], 22, false⟩]⟩) (rd.length - 0) _ e5_ hX ⟨0, rfl, (by omega), (fun j x hj => by omega), rfl⟩ ⟨sub_of kr kr ⟨iiC_b, inC_b, inC_b, brn, brn, ⟨⟩⟩, te_of kr kr⟩ kr ?_
               rintro m9 s9 ⟨j, rfl, i3_0, i3_1, rfl⟩ R3_ hR3_
               by_cases hlt_rd : j < rd.length
               ·skip
                obtain ⟨a17, ha17⟩ : ∃ x_, (rd)[j]? = some x_ := ⟨_, List.getElem?_eq_getElem (by omega)⟩
                refine sd_run 3 (sdT 66 ((j : Int) < (rd.length : Int)) (by omega) kr (sd_run 10 (sd_ix 67 (.pointer (some ⟨2, 0 + j * 1, none⟩)) j rd.length kr kr kr (by omega) (sd_ld 68 (.int .i64 a17) 3 (.pointer (some ⟨2, 0 + j * 1, none⟩)) kr kr kr (ld_cell (l := rd) (e := 3) (ro := false) (k := j) (j := 0) inC_len kr kr kr ha17 rfl) (sd_run 9 ?_)))))
                rcases Bool.eq_false_or_eq_true (valB a17 vs) with hc18 | hc18
                ·skip
                 refine sd_see 72 (.bool true) (see_bool kr hc18) (sd_run 9 (sd_see 74 (.int .i64 ((j + 1 : Nat) : Int)) (see_int (x := (IntKind.i64.wrap ((j : Int) + 1))) kr (w64 (by omega) (by omega) (by omega))) (sd_run 2 ?_)))
                 refine sd_inv R3_ kr (hR3_ _ (rd.length - (j + 1)) _ e5_ (by omega) ⟨j + 1, rfl, (by omega), (fun i x hj hx => by rcases (by omega : i < j ∨ i = j) with q | rfl; exact i3_1 i x q hx; rw [ha17] at hx; cases hx; assumption), rfl⟩ ⟨sub_of kr kr ⟨iiC_b, inC_b, inC_b, brn, brn, ⟨⟩⟩, te_of kr kr⟩ kr)
                ·skip
                 refine sd_see 72 (.bool false) (see_bool kr hc18) (sd_run 19 ?_)
                 have hR : rightB c od rd nd nr hd hr fl tg br ct vs = false := rightB_no fun h9 => by
                  have qvs_ := h9.vs_; have qlen := h9.len; have qnd_ := h9.nd_; have qnr_ := h9.nr_; have qhd_ := h9.hd_; have qhr_ := h9.hr_; have qct_ := h9.ct_; have qfl_ := h9.fl_; have qtg_ := h9.tg_; have qbr_ := h9.br_
                  have q := h9.rd_ j a17 ha17; simp_all
                 refine sdY (.bool false) hX [(iiCo c false), (inCo od false), (inCo rd false)] i3_ ⟨iiC_b, inC_b, inC_b, ⟨⟩⟩ ⟨(by rw [hR]), rfl⟩
               ·skip
                have hje_rd : j = rd.length := by omega
                refine sd_run 3 (sdF 66 ((j : Int) < (rd.length : Int)) (by omega) kr (sd_run 35 ?_))
                rcases Bool.eq_false_or_eq_true ((fl : Int) != (-1)) with hc19 | hc19
                ·skip
                 refine sd_see 79 (.bool true) (see_bool kr hc19) (sd_run 8 ?_)
                 rcases Bool.eq_false_or_eq_true (!(valB fl vs)) with hc20 | hc20
                 ·skip
                  refine sd_see 87 (.bool true) (see_bool kr hc20) (sd_run 22 ?_)
                  have hR : rightB c od rd nd nr hd hr fl tg br ct vs = false := rightB_no fun h9 => by
                   have qvs_ := h9.vs_; have qlen := h9.len; have qnd_ := h9.nd_; have qnr_ := h9.nr_; have qhd_ := h9.hd_; have qhr_ := h9.hr_; have qct_ := h9.ct_; have qfl_ := h9.fl_; have qtg_ := h9.tg_; have qbr_ := h9.br_
                   (try simp at hc1 hc2 hc3 hc4 hc5 hc6 hc7 hc8 hc9 hc10 hc11 hc12 hc19 hc20); first | omega | (simp_all; done) | (simp_all; omega)
                  refine sdY (.bool false) hX [(iiCo c false), (inCo od false), (inCo rd false)] i3_ ⟨iiC_b, inC_b, inC_b, ⟨⟩⟩ ⟨(by rw [hR]), rfl⟩
                 ·skip
                  refine sd_see 87 (.bool false) (see_bool kr hc20) (sd_run 4 ?_)
                  rcases Bool.eq_false_or_eq_true ((tg : Int) != (-1)) with hc21 | hc21
                  ·skip
                   refine sd_see 91 (.bool true) (see_bool kr hc21) (sd_run 10 ?_)
                   rcases Bool.eq_false_or_eq_true (!(valB tg vs)) with hc22 | hc22
                   ·skip
                    refine sd_see 99 (.bool true) (see_bool kr hc22) (sd_run 8 ?_)
                    have hR : rightB c od rd nd nr hd hr fl tg br ct vs = false := rightB_no fun h9 => by
                     have qvs_ := h9.vs_; have qlen := h9.len; have qnd_ := h9.nd_; have qnr_ := h9.nr_; have qhd_ := h9.hd_; have qhr_ := h9.hr_; have qct_ := h9.ct_; have qfl_ := h9.fl_; have qtg_ := h9.tg_; have qbr_ := h9.br_
                     (try simp at hc1 hc2 hc3 hc4 hc5 hc6 hc7 hc8 hc9 hc10 hc11 hc12 hc19 hc20 hc21 hc22); first | omega | (simp_all; done) | (simp_all; omega)
                    refine sdY (.bool false) hX [(iiCo c false), (inCo od false), (inCo rd false)] i3_ ⟨iiC_b, inC_b, inC_b, ⟨⟩⟩ ⟨(by rw [hR]), rfl⟩
                   ·skip
                    refine sd_see 99 (.bool false) (see_bool kr hc22) (sd_run 9 ?_)
                    rcases Bool.eq_false_or_eq_true ((br : Int) == 0) with hc23 | hc23
                    ·skip
                     refine sd_see 103 (.bool true) (see_bool kr hc23) (sd_run 18 ?_)
                     have hR : rightB c od rd nd nr hd hr fl tg br ct vs = true := by
                      have phc1 := hc1; have phc2 := hc2; have phc3 := hc3; have phc4 := hc4; have phc5 := hc5; have phc6 := hc6; have phc7 := hc7; have phc8 := hc8; have phc9 := hc9; have phc10 := hc10; have phc11 := hc11; have phc12 := hc12; have phc19 := hc19; have phc20 := hc20; have phc21 := hc21; have phc22 := hc22; have phc23 := hc23; (try simp at phc1 phc2 phc3 phc4 phc5 phc6 phc7 phc8 phc9 phc10 phc11 phc12 phc19 phc20 phc21 phc22 phc23)
                      exact rightB_yes ⟨by omega, by omega, by omega, by omega, by omega, by omega, by omega, fun q x h => i1_1 q x (by have := (List.getElem?_eq_some_iff.1 h).1; omega) h, fun q x h => i2_1 q x (by have := (List.getElem?_eq_some_iff.1 h).1; omega) h, fun q x h => i3_1 q x (by have := (List.getElem?_eq_some_iff.1 h).1; omega) h, by simp_all, by simp_all, by omega⟩
                     refine sdY (.bool true) hX [(iiCo c false), (inCo od false), (inCo rd false)] i3_ ⟨iiC_b, inC_b, inC_b, ⟨⟩⟩ ⟨(by rw [hR]), rfl⟩
                    ·skip
                     refine sd_see 103 (.bool false) (see_bool kr hc23) (sd_run 4 ?_)
                     rcases Bool.eq_false_or_eq_true (decide ((br : Int) ≥ 33)) with hc24 | hc24
                     ·skip
                      refine sd_see 107 (.bool true) (see_bool kr hc24) (sd_run 5 ?_)
                      rcases Bool.eq_false_or_eq_true (decide ((br : Int) ≤ 37)) with hc25 | hc25
                      ·skip
                       refine sd_see 112 (.bool true) (see_bool kr hc25) (sd_run 9 ?_)
                       rcases Bool.eq_false_or_eq_true ((tg : Int) == (-1)) with hc26 | hc26
                       ·skip
                        refine sd_see 2 (.bool true) (see_bool kr hc26) ?_
                        have hR : rightB c od rd nd nr hd hr fl tg br ct vs = true := by
                         have phc1 := hc1; have phc2 := hc2; have phc3 := hc3; have phc4 := hc4; have phc5 := hc5; have phc6 := hc6; have phc7 := hc7; have phc8 := hc8; have phc9 := hc9; have phc10 := hc10; have phc11 := hc11; have phc12 := hc12; have phc19 := hc19; have phc20 := hc20; have phc21 := hc21; have phc22 := hc22; have phc23 := hc23; have phc24 := hc24; have phc25 := hc25; have phc26 := hc26; (try simp at phc1 phc2 phc3 phc4 phc5 phc6 phc7 phc8 phc9 phc10 phc11 phc12 phc19 phc20 phc21 phc22 phc23 phc24 phc25 phc26)
                         exact rightB_yes ⟨by omega, by omega, by omega, by omega, by omega, by omega, by omega, fun q x h => i1_1 q x (by have := (List.getElem?_eq_some_iff.1 h).1; omega) h, fun q x h => i2_1 q x (by have := (List.getElem?_eq_some_iff.1 h).1; omega) h, fun q x h => i3_1 q x (by have := (List.getElem?_eq_some_iff.1 h).1; omega) h, by simp_all, by simp_all, by omega⟩
                        refine sdY (.bool true) hX [(iiCo c false), (inCo od false), (inCo rd false)] i3_ ⟨iiC_b, inC_b, inC_b, ⟨⟩⟩ ⟨(by rw [hR]), rfl⟩
                       ·skip
                        refine sd_see 2 (.bool false) (see_bool kr hc26) ?_
                        have hR : rightB c od rd nd nr hd hr fl tg br ct vs = false := rightB_no fun h9 => by
                         have qvs_ := h9.vs_; have qlen := h9.len; have qnd_ := h9.nd_; have qnr_ := h9.nr_; have qhd_ := h9.hd_; have qhr_ := h9.hr_; have qct_ := h9.ct_; have qfl_ := h9.fl_; have qtg_ := h9.tg_; have qbr_ := h9.br_
                         (try simp at hc1 hc2 hc3 hc4 hc5 hc6 hc7 hc8 hc9 hc10 hc11 hc12 hc19 hc20 hc21 hc22 hc23 hc24 hc25 hc26); first | omega | (simp_all; done) | (simp_all; omega)
                        refine sdY (.bool false) hX [(iiCo c false), (inCo od false), (inCo rd false)] i3_ ⟨iiC_b, inC_b, inC_b, ⟨⟩⟩ ⟨(by rw [hR]), rfl⟩
                      ·skip
                       refine sd_see 112 (.bool false) (see_bool kr hc25) (sd_run 9 ?_)
                       have hR : rightB c od rd nd nr hd hr fl tg br ct vs = false := rightB_no fun h9 => by
                        have qvs_ := h9.vs_; have qlen := h9.len; have qnd_ := h9.nd_; have qnr_ := h9.nr_; have qhd_ := h9.hd_; have qhr_ := h9.hr_; have qct_ := h9.ct_; have qfl_ := h9.fl_; have qtg_ := h9.tg_; have qbr_ := h9.br_
                        (try simp at hc1 hc2 hc3 hc4 hc5 hc6 hc7 hc8 hc9 hc10 hc11 hc12 hc19 hc20 hc21 hc22 hc23 hc24 hc25); first | omega | (simp_all; done) | (simp_all; omega)
                       refine sdY (.bool false) hX [(iiCo c false), (inCo od false), (inCo rd false)] i3_ ⟨iiC_b, inC_b, inC_b, ⟨⟩⟩ ⟨(by rw [hR]), rfl⟩
                     ·skip
                      refine sd_see 107 (.bool false) (see_bool kr hc24) (sd_run 14 ?_)
                      have hR : rightB c od rd nd nr hd hr fl tg br ct vs = false := rightB_no fun h9 => by
                       have qvs_ := h9.vs_; have qlen := h9.len; have qnd_ := h9.nd_; have qnr_ := h9.nr_; have qhd_ := h9.hd_; have qhr_ := h9.hr_; have qct_ := h9.ct_; have qfl_ := h9.fl_; have qtg_ := h9.tg_; have qbr_ := h9.br_
                       (try simp at hc1 hc2 hc3 hc4 hc5 hc6 hc7 hc8 hc9 hc10 hc11 hc12 hc19 hc20 hc21 hc22 hc23 hc24); first | omega | (simp_all; done) | (simp_all; omega)
                      refine sdY (.bool false) hX [(iiCo c false), (inCo od false), (inCo rd false)] i3_ ⟨iiC_b, inC_b, inC_b, ⟨⟩⟩ ⟨(by rw [hR]), rfl⟩
                  ·skip
                   refine sd_see 91 (.bool false) (see_bool kr hc21) (sd_run 19 ?_)
                   rcases Bool.eq_false_or_eq_true ((br : Int) == 0) with hc27 | hc27
                   ·skip
                    refine sd_see 103 (.bool true) (see_bool kr hc27) (sd_run 18 ?_)
                    have hR : rightB c od rd nd nr hd hr fl tg br ct vs = true := by
                     have phc1 := hc1; have phc2 := hc2; have phc3 := hc3; have phc4 := hc4; have phc5 := hc5; have phc6 := hc6; have phc7 := hc7; have phc8 := hc8; have phc9 := hc9; have phc10 := hc10; have phc11 := hc11; have phc12 := hc12; have phc19 := hc19; have phc20 := hc20; have phc21 := hc21; have phc27 := hc27; (try simp at phc1 phc2 phc3 phc4 phc5 phc6 phc7 phc8 phc9 phc10 phc11 phc12 phc19 phc20 phc21 phc27)
                     exact rightB_yes ⟨by omega, by omega, by omega, by omega, by omega, by omega, by omega, fun q x h => i1_1 q x (by have := (List.getElem?_eq_some_iff.1 h).1; omega) h, fun q x h => i2_1 q x (by have := (List.getElem?_eq_some_iff.1 h).1; omega) h, fun q x h => i3_1 q x (by have := (List.getElem?_eq_some_iff.1 h).1; omega) h, by simp_all, by simp_all, by omega⟩
                    refine sdY (.bool true) hX [(iiCo c false), (inCo od false), (inCo rd false)] i3_ ⟨iiC_b, inC_b, inC_b, ⟨⟩⟩ ⟨(by rw [hR]), rfl⟩
                   ·skip
                    refine sd_see 103 (.bool false) (see_bool kr hc27) (sd_run 4 ?_)
                    rcases Bool.eq_false_or_eq_true (decide ((br : Int) ≥ 33)) with hc28 | hc28
                    ·skip
                     refine sd_see 107 (.bool true) (see_bool kr hc28) (sd_run 5 ?_)
                     rcases Bool.eq_false_or_eq_true (decide ((br : Int) ≤ 37)) with hc29 | hc29
                     ·skip
                      refine sd_see 112 (.bool true) (see_bool kr hc29) (sd_run 9 ?_)
                      rcases Bool.eq_false_or_eq_true ((tg : Int) == (-1)) with hc30 | hc30
                      ·skip
                       refine sd_see 2 (.bool true) (see_bool kr hc30) ?_
                       have hR : rightB c od rd nd nr hd hr fl tg br ct vs = true := by
                        have phc1 := hc1; have phc2 := hc2; have phc3 := hc3; have phc4 := hc4; have phc5 := hc5; have phc6 := hc6; have phc7 := hc7; have phc8 := hc8; have phc9 := hc9; have phc10 := hc10; have phc11 := hc11; have phc12 := hc12; have phc19 := hc19; have phc20 := hc20; have phc21 := hc21; have phc27 := hc27; have phc28 := hc28; have phc29 := hc29; have phc30 := hc30; (try simp at phc1 phc2 phc3 phc4 phc5 phc6 phc7 phc8 phc9 phc10 phc11 phc12 phc19 phc20 phc21 phc27 phc28 phc29 phc30)
                        exact rightB_yes ⟨by omega, by omega, by omega, by omega, by omega, by omega, by omega, fun q x h => i1_1 q x (by have := (List.getElem?_eq_some_iff.1 h).1; omega) h, fun q x h => i2_1 q x (by have := (List.getElem?_eq_some_iff.1 h).1; omega) h, fun q x h => i3_1 q x (by have := (List.getElem?_eq_some_iff.1 h).1; omega) h, by simp_all, by simp_all, by omega⟩
                       refine sdY (.bool true) hX [(iiCo c false), (inCo od false), (inCo rd false)] i3_ ⟨iiC_b, inC_b, inC_b, ⟨⟩⟩ ⟨(by rw [hR]), rfl⟩
                      ·skip
                       refine sd_see 2 (.bool false) (see_bool kr hc30) ?_
                       have hR : rightB c od rd nd nr hd hr fl tg br ct vs = false := rightB_no fun h9 => by
                        have qvs_ := h9.vs_; have qlen := h9.len; have qnd_ := h9.nd_; have qnr_ := h9.nr_; have qhd_ := h9.hd_; have qhr_ := h9.hr_; have qct_ := h9.ct_; have qfl_ := h9.fl_; have qtg_ := h9.tg_; have qbr_ := h9.br_
                        (try simp at hc1 hc2 hc3 hc4 hc5 hc6 hc7 hc8 hc9 hc10 hc11 hc12 hc19 hc20 hc21 hc27 hc28 hc29 hc30); first | omega | (simp_all; done) | (simp_all; omega)
                       refine sdY (.bool false) hX [(iiCo c false), (inCo od false), (inCo rd false)] i3_ ⟨iiC_b, inC_b, inC_b, ⟨⟩⟩ ⟨(by rw [hR]), rfl⟩
                     ·skip
                      refine sd_see 112 (.bool false) (see_bool kr hc29) (sd_run 9 ?_)
                      have hR : rightB c od rd nd nr hd hr fl tg br ct vs = false := rightB_no fun h9 => by
                       have qvs_ := h9.vs_; have qlen := h9.len; have qnd_ := h9.nd_; have qnr_ := h9.nr_; have qhd_ := h9.hd_; have qhr_ := h9.hr_; have qct_ := h9.ct_; have qfl_ := h9.fl_; have qtg_ := h9.tg_; have qbr_ := h9.br_
                       (try simp at hc1 hc2 hc3 hc4 hc5 hc6 hc7 hc8 hc9 hc10 hc11 hc12 hc19 hc20 hc21 hc27 hc28 hc29); first | omega | (simp_all; done) | (simp_all; omega)
                      refine sdY (.bool false) hX [(iiCo c false), (inCo od false), (inCo rd false)] i3_ ⟨iiC_b, inC_b, inC_b, ⟨⟩⟩ ⟨(by rw [hR]), rfl⟩
                    ·skip
                     refine sd_see 107 (.bool false) (see_bool kr hc28) (sd_run 14 ?_)
                     have hR : rightB c od rd nd nr hd hr fl tg br ct vs = false := rightB_no fun h9 => by
                      have qvs_ := h9.vs_; have qlen := h9.len; have qnd_ := h9.nd_; have qnr_ := h9.nr_; have qhd_ := h9.hd_; have qhr_ := h9.hr_; have qct_ := h9.ct_; have qfl_ := h9.fl_; have qtg_ := h9.tg_; have qbr_ := h9.br_
                      (try simp at hc1 hc2 hc3 hc4 hc5 hc6 hc7 hc8 hc9 hc10 hc11 hc12 hc19 hc20 hc21 hc27 hc28); first | omega | (simp_all; done) | (simp_all; omega)
                     refine sdY (.bool false) hX [(iiCo c false), (inCo od false), (inCo rd false)] i3_ ⟨iiC_b, inC_b, inC_b, ⟨⟩⟩ ⟨(by rw [hR]), rfl⟩
                ·skip
                 refine sd_see 79 (.bool false) (see_bool kr hc19) (sd_run 12 ?_)
                 rcases Bool.eq_false_or_eq_true ((tg : Int) != (-1)) with hc31 | hc31
                 ·skip
                  refine sd_see 91 (.bool true) (see_bool kr hc31) (sd_run 10 ?_)
                  rcases Bool.eq_false_or_eq_true (!(valB tg vs)) with hc32 | hc32
                  ·skip
                   refine sd_see 99 (.bool true) (see_bool kr hc32) (sd_run 8 ?_)
                   have hR : rightB c od rd nd nr hd hr fl tg br ct vs = false := rightB_no fun h9 => by
                    have qvs_ := h9.vs_; have qlen := h9.len; have qnd_ := h9.nd_; have qnr_ := h9.nr_; have qhd_ := h9.hd_; have qhr_ := h9.hr_; have qct_ := h9.ct_; have qfl_ := h9.fl_; have qtg_ := h9.tg_; have qbr_ := h9.br_
                    (try simp at hc1 hc2 hc3 hc4 hc5 hc6 hc7 hc8 hc9 hc10 hc11 hc12 hc19 hc31 hc32); first | omega | (simp_all; done) | (simp_all; omega)
                   refine sdY (.bool false) hX [(iiCo c false), (inCo od false), (inCo rd false)] i3_ ⟨iiC_b, inC_b, inC_b, ⟨⟩⟩ ⟨(by rw [hR]), rfl⟩
                  ·skip
                   refine sd_see 99 (.bool false) (see_bool kr hc32) (sd_run 9 ?_)
                   rcases Bool.eq_false_or_eq_true ((br : Int) == 0) with hc33 | hc33
                   ·skip
                    refine sd_see 103 (.bool true) (see_bool kr hc33) (sd_run 18 ?_)
                    have hR : rightB c od rd nd nr hd hr fl tg br ct vs = true := by
                     have phc1 := hc1; have phc2 := hc2; have phc3 := hc3; have phc4 := hc4; have phc5 := hc5; have phc6 := hc6; have phc7 := hc7; have phc8 := hc8; have phc9 := hc9; have phc10 := hc10; have phc11 := hc11; have phc12 := hc12; have phc19 := hc19; have phc31 := hc31; have phc32 := hc32; have phc33 := hc33; (try simp at phc1 phc2 phc3 phc4 phc5 phc6 phc7 phc8 phc9 phc10 phc11 phc12 phc19 phc31 phc32 phc33)
                     exact rightB_yes ⟨by omega, by omega, by omega, by omega, by omega, by omega, by omega, fun q x h => i1_1 q x (by have := (List.getElem?_eq_some_iff.1 h).1; omega) h, fun q x h => i2_1 q x (by have := (List.getElem?_eq_some_iff.1 h).1; omega) h, fun q x h => i3_1 q x (by have := (List.getElem?_eq_some_iff.1 h).1; omega) h, by simp_all, by simp_all, by omega⟩
                    refine sdY (.bool true) hX [(iiCo c false), (inCo od false), (inCo rd false)] i3_ ⟨iiC_b, inC_b, inC_b, ⟨⟩⟩ ⟨(by rw [hR]), rfl⟩
                   ·skip
                    refine sd_see 103 (.bool false) (see_bool kr hc33) (sd_run 4 ?_)
                    rcases Bool.eq_false_or_eq_true (decide ((br : Int) ≥ 33)) with hc34 | hc34
                    ·skip
                     refine sd_see 107 (.bool true) (see_bool kr hc34) (sd_run 5 ?_)
                     rcases Bool.eq_false_or_eq_true (decide ((br : Int) ≤ 37)) with hc35 | hc35
                     ·skip
                      refine sd_see 112 (.bool true) (see_bool kr hc35) (sd_run 9 ?_)
                      rcases Bool.eq_false_or_eq_true ((tg : Int) == (-1)) with hc36 | hc36
                      ·skip
                       refine sd_see 2 (.bool true) (see_bool kr hc36) ?_
                       have hR : rightB c od rd nd nr hd hr fl tg br ct vs = true := by
                        have phc1 := hc1; have phc2 := hc2; have phc3 := hc3; have phc4 := hc4; have phc5 := hc5; have phc6 := hc6; have phc7 := hc7; have phc8 := hc8; have phc9 := hc9; have phc10 := hc10; have phc11 := hc11; have phc12 := hc12; have phc19 := hc19; have phc31 := hc31; have phc32 := hc32; have phc33 := hc33; have phc34 := hc34; have phc35 := hc35; have phc36 := hc36; (try simp at phc1 phc2 phc3 phc4 phc5 phc6 phc7 phc8 phc9 phc10 phc11 phc12 phc19 phc31 phc32 phc33 phc34 phc35 phc36)
                        exact rightB_yes ⟨by omega, by omega, by omega, by omega, by omega, by omega, by omega, fun q x h => i1_1 q x (by have := (List.getElem?_eq_some_iff.1 h).1; omega) h, fun q x h => i2_1 q x (by have := (List.getElem?_eq_some_iff.1 h).1; omega) h, fun q x h => i3_1 q x (by have := (List.getElem?_eq_some_iff.1 h).1; omega) h, by simp_all, by simp_all, by omega⟩
                       refine sdY (.bool true) hX [(iiCo c false), (inCo od false), (inCo rd false)] i3_ ⟨iiC_b, inC_b, inC_b, ⟨⟩⟩ ⟨(by rw [hR]), rfl⟩
                      ·skip
                       refine sd_see 2 (.bool false) (see_bool kr hc36) ?_
                       have hR : rightB c od rd nd nr hd hr fl tg br ct vs = false := rightB_no fun h9 => by
                        have qvs_ := h9.vs_; have qlen := h9.len; have qnd_ := h9.nd_; have qnr_ := h9.nr_; have qhd_ := h9.hd_; have qhr_ := h9.hr_; have qct_ := h9.ct_; have qfl_ := h9.fl_; have qtg_ := h9.tg_; have qbr_ := h9.br_
                        (try simp at hc1 hc2 hc3 hc4 hc5 hc6 hc7 hc8 hc9 hc10 hc11 hc12 hc19 hc31 hc32 hc33 hc34 hc35 hc36); first | omega | (simp_all; done) | (simp_all; omega)
                       refine sdY (.bool false) hX [(iiCo c false), (inCo od false), (inCo rd false)] i3_ ⟨iiC_b, inC_b, inC_b, ⟨⟩⟩ ⟨(by rw [hR]), rfl⟩
                     ·skip
                      refine sd_see 112 (.bool false) (see_bool kr hc35) (sd_run 9 ?_)
                      have hR : rightB c od rd nd nr hd hr fl tg br ct vs = false := rightB_no fun h9 => by
                       have qvs_ := h9.vs_; have qlen := h9.len; have qnd_ := h9.nd_; have qnr_ := h9.nr_; have qhd_ := h9.hd_; have qhr_ := h9.hr_; have qct_ := h9.ct_; have qfl_ := h9.fl_; have qtg_ := h9.tg_; have qbr_ := h9.br_
                       (try simp at hc1 hc2 hc3 hc4 hc5 hc6 hc7 hc8 hc9 hc10 hc11 hc12 hc19 hc31 hc32 hc33 hc34 hc35); first | omega | (simp_all; done) | (simp_all; omega)
                      refine sdY (.bool false) hX [(iiCo c false), (inCo od false), (inCo rd false)] i3_ ⟨iiC_b, inC_b, inC_b, ⟨⟩⟩ ⟨(by rw [hR]), rfl⟩
                    ·skip
                     refine sd_see 107 (.bool false) (see_bool kr hc34) (sd_run 14 ?_)
                     have hR : rightB c od rd nd nr hd hr fl tg br ct vs = false := rightB_no fun h9 => by
                      have qvs_ := h9.vs_; have qlen := h9.len; have qnd_ := h9.nd_; have qnr_ := h9.nr_; have qhd_ := h9.hd_; have qhr_ := h9.hr_; have qct_ := h9.ct_; have qfl_ := h9.fl_; have qtg_ := h9.tg_; have qbr_ := h9.br_
                      (try simp at hc1 hc2 hc3 hc4 hc5 hc6 hc7 hc8 hc9 hc10 hc11 hc12 hc19 hc31 hc32 hc33 hc34); first | omega | (simp_all; done) | (simp_all; omega)
                     refine sdY (.bool false) hX [(iiCo c false), (inCo od false), (inCo rd false)] i3_ ⟨iiC_b, inC_b, inC_b, ⟨⟩⟩ ⟨(by rw [hR]), rfl⟩
                 ·skip
                  refine sd_see 91 (.bool false) (see_bool kr hc31) (sd_run 19 ?_)
                  rcases Bool.eq_false_or_eq_true ((br : Int) == 0) with hc37 | hc37
                  ·skip
                   refine sd_see 103 (.bool true) (see_bool kr hc37) (sd_run 18 ?_)
                   have hR : rightB c od rd nd nr hd hr fl tg br ct vs = true := by
                    have phc1 := hc1; have phc2 := hc2; have phc3 := hc3; have phc4 := hc4; have phc5 := hc5; have phc6 := hc6; have phc7 := hc7; have phc8 := hc8; have phc9 := hc9; have phc10 := hc10; have phc11 := hc11; have phc12 := hc12; have phc19 := hc19; have phc31 := hc31; have phc37 := hc37; (try simp at phc1 phc2 phc3 phc4 phc5 phc6 phc7 phc8 phc9 phc10 phc11 phc12 phc19 phc31 phc37)
                    exact rightB_yes ⟨by omega, by omega, by omega, by omega, by omega, by omega, by omega, fun q x h => i1_1 q x (by have := (List.getElem?_eq_some_iff.1 h).1; omega) h, fun q x h => i2_1 q x (by have := (List.getElem?_eq_some_iff.1 h).1; omega) h, fun q x h => i3_1 q x (by have := (List.getElem?_eq_some_iff.1 h).1; omega) h, by simp_all, by simp_all, by omega⟩
                   refine sdY (.bool true) hX [(iiCo c false), (inCo od false), (inCo rd false)] i3_ ⟨iiC_b, inC_b, inC_b, ⟨⟩⟩ ⟨(by rw [hR]), rfl⟩
                  ·skip
                   refine sd_see 103 (.bool false) (see_bool kr hc37) (sd_run 4 ?_)
                   rcases Bool.eq_false_or_eq_true (decide ((br : Int) ≥ 33)) with hc38 | hc38
                   ·skip
                    refine sd_see 107 (.bool true) (see_bool kr hc38) (sd_run 5 ?_)
                    rcases Bool.eq_false_or_eq_true (decide ((br : Int) ≤ 37)) with hc39 | hc39
                    ·skip
                     refine sd_see 112 (.bool true) (see_bool kr hc39) (sd_run 9 ?_)
                     rcases Bool.eq_false_or_eq_true ((tg : Int) == (-1)) with hc40 | hc40
                     ·skip
                      refine sd_see 2 (.bool true) (see_bool kr hc40) ?_
                      have hR : rightB c od rd nd nr hd hr fl tg br ct vs = true := by
                       have phc1 := hc1; have phc2 := hc2; have phc3 := hc3; have phc4 := hc4; have phc5 := hc5; have phc6 := hc6; have phc7 := hc7; have phc8 := hc8; have phc9 := hc9; have phc10 := hc10; have phc11 := hc11; have phc12 := hc12; have phc19 := hc19; have phc31 := hc31; have phc37 := hc37; have phc38 := hc38; have phc39 := hc39; have phc40 := hc40; (try simp at phc1 phc2 phc3 phc4 phc5 phc6 phc7 phc8 phc9 phc10 phc11 phc12 phc19 phc31 phc37 phc38 phc39 phc40)
                       exact rightB_yes ⟨by omega, by omega, by omega, by omega, by omega, by omega, by omega, fun q x h => i1_1 q x (by have := (List.getElem?_eq_some_iff.1 h).1; omega) h, fun q x h => i2_1 q x (by have := (List.getElem?_eq_some_iff.1 h).1; omega) h, fun q x h => i3_1 q x (by have := (List.getElem?_eq_some_iff.1 h).1; omega) h, by simp_all, by simp_all, by omega⟩
                      refine sdY (.bool true) hX [(iiCo c false), (inCo od false), (inCo rd false)] i3_ ⟨iiC_b, inC_b, inC_b, ⟨⟩⟩ ⟨(by rw [hR]), rfl⟩
                     ·skip
                      refine sd_see 2 (.bool false) (see_bool kr hc40) ?_
                      have hR : rightB c od rd nd nr hd hr fl tg br ct vs = false := rightB_no fun h9 => by
                       have qvs_ := h9.vs_; have qlen := h9.len; have qnd_ := h9.nd_; have qnr_ := h9.nr_; have qhd_ := h9.hd_; have qhr_ := h9.hr_; have qct_ := h9.ct_; have qfl_ := h9.fl_; have qtg_ := h9.tg_; have qbr_ := h9.br_
                       (try simp at hc1 hc2 hc3 hc4 hc5 hc6 hc7 hc8 hc9 hc10 hc11 hc12 hc19 hc31 hc37 hc38 hc39 hc40); first | omega | (simp_all; done) | (simp_all; omega)
                      refine sdY (.bool false) hX [(iiCo c false), (inCo od false), (inCo rd false)] i3_ ⟨iiC_b, inC_b, inC_b, ⟨⟩⟩ ⟨(by rw [hR]), rfl⟩
                    ·skip
                     refine sd_see 112 (.bool false) (see_bool kr hc39) (sd_run 9 ?_)
                     have hR : rightB c od rd nd nr hd hr fl tg br ct vs = false := rightB_no fun h9 => by
                      have qvs_ := h9.vs_; have qlen := h9.len; have qnd_ := h9.nd_; have qnr_ := h9.nr_; have qhd_ := h9.hd_; have qhr_ := h9.hr_; have qct_ := h9.ct_; have qfl_ := h9.fl_; have qtg_ := h9.tg_; have qbr_ := h9.br_
                      (try simp at hc1 hc2 hc3 hc4 hc5 hc6 hc7 hc8 hc9 hc10 hc11 hc12 hc19 hc31 hc37 hc38 hc39); first | omega | (simp_all; done) | (simp_all; omega)
                     refine sdY (.bool false) hX [(iiCo c false), (inCo od false), (inCo rd false)] i3_ ⟨iiC_b, inC_b, inC_b, ⟨⟩⟩ ⟨(by rw [hR]), rfl⟩
                   ·skip
                    refine sd_see 107 (.bool false) (see_bool kr hc38) (sd_run 14 ?_)
                    have hR : rightB c od rd nd nr hd hr fl tg br ct vs = false := rightB_no fun h9 => by
                     have qvs_ := h9.vs_; have qlen := h9.len; have qnd_ := h9.nd_; have qnr_ := h9.nr_; have qhd_ := h9.hd_; have qhr_ := h9.hr_; have qct_ := h9.ct_; have qfl_ := h9.fl_; have qtg_ := h9.tg_; have qbr_ := h9.br_
                     (try simp at hc1 hc2 hc3 hc4 hc5 hc6 hc7 hc8 hc9 hc10 hc11 hc12 hc19 hc31 hc37 hc38); first | omega | (simp_all; done) | (simp_all; omega)
                    refine sdY (.bool false) hX [(iiCo c false), (inCo od false), (inCo rd false)] i3_ ⟨iiC_b, inC_b, inC_b, ⟨⟩⟩ ⟨(by rw [hR]), rfl⟩
end Ls
end Go.Proofs.YtgpphhdndmdlgaaDoor
