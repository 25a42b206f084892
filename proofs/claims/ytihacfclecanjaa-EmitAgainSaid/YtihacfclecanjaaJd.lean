/- Chapter 22: which blocks may be. -/
import Derived.Test.YtihacfclecanjaaJc
set_option linter.unusedVariables false
set_option linter.unusedSimpArgs false
namespace Go.Proofs.Ytihacfclecanjaa
open Go Go.Ev Go.RowKit
set_option maxRecDepth 100000
namespace Ls
noncomputable def f98b : Code := Try.f98.body.getD .skip
set_option maxHeartbeats 1000000 in
theorem irmade_s {c : List II} {od rd : List Int} {nd nr hd hr fl nx tg br tk ct vs : Int} {k : Nat} {x : II} (hx : c[k]? = some x) (hi : 0 ≤ x.2.2.2.2 ∧ x.2.2.2.2 < 4294967296) (hk : c.length < 1000000) (hnd : 0 ≤ nd ∧ nd ≤ 16) (hnr : 0 ≤ nr ∧ nr ≤ 16) : SCall Try.prog T15 98 #[(pgV (s5 0 c.length) nd nr hd hr (s1 1 od.length) (s1 2 rd.length) fl nx tg br tk ct vs), jI (k : Int)] (hq [(iiF c), (inF od), (inF rd)]) fun v h => v = .bool (madeB nd nr x (k : Int)) ∧ h = hq [(iiF c), (inF od), (inF rd)] := by
 have hkl := (List.getElem?_eq_some_iff.1 hx).1;refine zS Try.f98 f98b 95 3 fun X hX => ?_
 refine zX 11 11 (pT 0 (0 + k * 5)) k c.length (zM 0 12 92 0 92 false iiC_len hx (sd_run 13 ?_));refine zB 0 16 ((x.2.1 : Int) != (k : Int)) (fun hc1 => ?_) fun hc1 => ?_
 ·refine sd_run 8 ?_;refine zY (.bool false) hX i3_ ⟨(by congr 1; (try simp at hc1); unfold madeB; simp [hc1] <;> (first | rfl | omega | (intros; omega) | (rw [Bool.eq_iff_iff]; simp; omega) | (intros; simp_all; done) | (simp_all; done))), rfl⟩
 ·refine sd_run 4 (sd_mid 95 (cl (cr (cr (cr f98b)))) [.next (cr (cr (cr (cr f98b))))] kr kr kr (fun s9 => s9 = ⟨tmL [(1, jI (k : Int)), (2, pT 3 0), (5, pT 4 0), (6, .bool (valB x.2.2.1 (k : Int) && valB x.2.2.2.1 (k : Int)))], hq [(iiF c), (inF od), (inF rd), oB 28 [(s5 0 c.length), jI nd, jI nr, jI hd, jI hr, (s1 1 od.length), (s1 2 rd.length), jI fl, jU nx, jI tg, jI br, jU tk, jI ct, jI vs], oB 92 [jI x.1, jI x.2.1, jI x.2.2.1, jI x.2.2.2.1, jU x.2.2.2.2]]⟩) hX ?_ ?_)
  ·intro R1_ hR1_;refine zB 6 21 (valB x.2.2.1 (k : Int)) (fun hc2 => ?_) fun hc2 => ?_
   ·refine sd_run 7 (sd_see 6 (.bool (valB x.2.2.1 (k : Int) && valB x.2.2.2.1 (k : Int))) (see_bool (x := (valB x.2.2.2.1 (k : Int))) kr (by (try simp at hc2); simp [hc2] <;> rfl)) ?_);refine sd_inv R1_ kr (hR1_ _ _ e5_ rfl ⟨zs, zt⟩ kr)
   ·refine sd_run 7 (sd_see 6 (.bool (valB x.2.2.1 (k : Int) && valB x.2.2.2.1 (k : Int))) (see_bool (x := false) kr (by (try simp at hc2); simp [hc2] <;> rfl)) ?_);refine sd_inv R1_ kr (hR1_ _ _ e5_ rfl ⟨zs, zt⟩ kr)
  ·rintro s9 rfl;refine sd_run 2 (sd_mid 95 (cl (cr (cr (cr (cr f98b))))) [.next (cr (cr (cr (cr (cr f98b)))))] kr kr kr (fun s9 => s9 = ⟨tmL [(2, pT 3 0), (5, pT 4 0), (6, .bool (valB x.2.2.1 (k : Int) && valB x.2.2.2.1 (k : Int))), (7, .bool (decide (x.2.2.1 = 0) && decide (x.2.2.2.1 = 0)))], hq [(iiF c), (inF od), (inF rd), oB 28 [(s5 0 c.length), jI nd, jI nr, jI hd, jI hr, (s1 1 od.length), (s1 2 rd.length), jI fl, jU nx, jI tg, jI br, jU tk, jI ct, jI vs], oB 92 [jI x.1, jI x.2.1, jI x.2.2.1, jI x.2.2.2.1, jU x.2.2.2.2]]⟩) hX ?_ ?_)
   ·intro R2_ hR2_;refine zB 5 30 ((x.2.2.1 : Int) == 0) (fun hc3 => ?_) fun hc3 => ?_
    ·refine sd_run 6 (sd_see 7 (.bool (decide (x.2.2.1 = 0) && decide (x.2.2.2.1 = 0))) (see_bool (x := ((x.2.2.2.1 : Int) == 0)) kr (by (try simp at hc3); simp [hc3] <;> rfl)) ?_);refine sd_inv R2_ kr (hR2_ _ _ e5_ rfl ⟨zs, zt⟩ kr)
    ·refine sd_run 6 (sd_see 7 (.bool (decide (x.2.2.1 = 0) && decide (x.2.2.2.1 = 0))) (see_bool (x := false) kr (by (try simp at hc3); simp [hc3] <;> rfl)) ?_);refine sd_inv R2_ kr (hR2_ _ _ e5_ rfl ⟨zs, zt⟩ kr)
   ·rintro s9 rfl;refine zB 15 37 ((x.1 : Int) == 0) (fun hc4 => ?_) fun hc4 => ?_
    ·refine sd_run 10 ?_;refine zY (.bool (decide (x.2.2.1 = 0) && decide (x.2.2.2.1 = 0))) hX i3_ ⟨(by congr 1; (try simp at hc1 hc4); unfold madeB; simp [hc1, hc4] <;> (first | rfl | omega | (intros; omega) | (rw [Bool.eq_iff_iff]; simp; omega) | (intros; simp_all; done) | (simp_all; done))), rfl⟩
    ·refine zB 7 40 ((x.1 : Int) == 1) (fun hc5 => ?_) fun hc5 => ?_
     ·refine zB 5 43 (decide (x.2.2.1 = 0) && decide (x.2.2.2.1 = 0)) (fun hc6 => ?_) fun hc6 => ?_
      ·refine zI 3 46 .u64 x.2.2.2.2 (IntKind.u64.wrap x.2.2.2.2) (zI 3 49 .u64 nd (IntKind.u64.wrap nd) (sd_run 8 ?_));refine zY (.bool (decide ((x.2.2.2.2 : Int) < nd))) hX i3_ ⟨(by congr 1; (try simp at hc1 hc4 hc5 hc6); unfold madeB; simp [hc1, hc4, hc5, hc6] <;> (first | rfl | omega | (intros; omega) | (rw [Bool.eq_iff_iff]; simp; omega) | (intros; simp_all; done) | (simp_all; done))), rfl⟩
      ·refine sd_run 14 ?_;refine zY (.bool false) hX i3_ ⟨(by congr 1; (try simp at hc1 hc4 hc5 hc6); unfold madeB; simp [hc1, hc4, hc5, hc6] <;> (first | rfl | omega | (intros; omega) | (rw [Bool.eq_iff_iff]; simp; omega) | (intros; simp_all; done) | (simp_all; done))), rfl⟩
     ·refine zB 7 52 ((x.1 : Int) == 2) (fun hc7 => ?_) fun hc7 => ?_
      ·refine zB 5 55 (decide (x.2.2.1 = 0) && decide (x.2.2.2.1 = 0)) (fun hc8 => ?_) fun hc8 => ?_
       ·refine zI 3 58 .u64 x.2.2.2.2 (IntKind.u64.wrap x.2.2.2.2) (zI 3 61 .u64 nr (IntKind.u64.wrap nr) (sd_run 8 ?_));refine zY (.bool (decide ((x.2.2.2.2 : Int) < nr))) hX i3_ ⟨(by congr 1; (try simp at hc1 hc4 hc5 hc7 hc8); unfold madeB; simp [hc1, hc4, hc5, hc7, hc8] <;> (first | rfl | omega | (intros; omega) | (rw [Bool.eq_iff_iff]; simp; omega) | (intros; simp_all; done) | (simp_all; done))), rfl⟩
       ·refine sd_run 14 ?_;refine zY (.bool false) hX i3_ ⟨(by congr 1; (try simp at hc1 hc4 hc5 hc7 hc8); unfold madeB; simp [hc1, hc4, hc5, hc7, hc8] <;> (first | rfl | omega | (intros; omega) | (rw [Bool.eq_iff_iff]; simp; omega) | (intros; simp_all; done) | (simp_all; done))), rfl⟩
      ·refine zB 7 64 ((x.1 : Int) == 3) (fun hc9 => ?_) fun hc9 => ?_
       ·refine zB 5 67 (valB x.2.2.1 (k : Int) && valB x.2.2.2.1 (k : Int)) (fun hc10 => ?_) fun hc10 => ?_
        ·refine zB 5 72 (decide ((x.2.2.2.2 : Int) ≥ 16)) (fun hc11 => ?_) fun hc11 => ?_
         ·refine sd_run 10 ?_;refine zY (.bool (decide ((x.2.2.2.2 : Int) ≤ 23))) hX i3_ ⟨(by congr 1; (try simp at hc1 hc4 hc5 hc7 hc9 hc10 hc11); unfold madeB; simp [hc1, hc4, hc5, hc7, hc9, hc10, hc11] <;> (first | rfl | omega | (intros; omega) | (rw [Bool.eq_iff_iff]; simp; omega) | (intros; simp_all; done) | (simp_all; done))), rfl⟩
         ·refine sd_run 10 ?_;refine zY (.bool false) hX i3_ ⟨(by congr 1; (try simp at hc1 hc4 hc5 hc7 hc9 hc10 hc11); unfold madeB; simp [hc1, hc4, hc5, hc7, hc9, hc10, hc11] <;> (first | rfl | omega | (intros; omega) | (rw [Bool.eq_iff_iff]; simp; omega) | (intros; simp_all; done) | (simp_all; done))), rfl⟩
        ·refine sd_run 15 ?_;refine zY (.bool false) hX i3_ ⟨(by congr 1; (try simp at hc1 hc4 hc5 hc7 hc9 hc10); unfold madeB; simp [hc1, hc4, hc5, hc7, hc9, hc10] <;> (first | rfl | omega | (intros; omega) | (rw [Bool.eq_iff_iff]; simp; omega) | (intros; simp_all; done) | (simp_all; done))), rfl⟩
       ·refine zB 7 77 ((x.1 : Int) == 4) (fun hc12 => ?_) fun hc12 => ?_
        ·refine zB 5 80 (valB x.2.2.1 (k : Int) && valB x.2.2.2.1 (k : Int)) (fun hc13 => ?_) fun hc13 => ?_
         ·refine zB 4 84 (decide ((x.2.2.2.2 : Int) ≥ 16)) (fun hc14 => ?_) fun hc14 => ?_
          ·refine zB 5 89 (decide ((x.2.2.2.2 : Int) ≤ 23)) (fun hc15 => ?_) fun hc15 => ?_
           ·refine sd_run 11 ?_;refine zY (.bool true) hX i3_ ⟨(by congr 1; (try simp at hc1 hc4 hc5 hc7 hc9 hc12 hc13 hc14 hc15); unfold madeB; simp [hc1, hc4, hc5, hc7, hc9, hc12, hc13, hc14, hc15] <;> (first | rfl | omega | (intros; omega) | (rw [Bool.eq_iff_iff]; simp; omega) | (intros; simp_all; done) | (simp_all; done))), rfl⟩
           ·refine sd_run 11 ?_;refine zY (.bool ((x.2.2.2.2 : Int) == 25)) hX i3_ ⟨(by congr 1; (try simp at hc1 hc4 hc5 hc7 hc9 hc12 hc13 hc14 hc15); unfold madeB; simp [hc1, hc4, hc5, hc7, hc9, hc12, hc13, hc14, hc15] <;> (first | rfl | omega | (intros; omega) | (rw [Bool.eq_iff_iff]; simp; omega) | (intros; simp_all; done) | (simp_all; done))), rfl⟩
          ·refine sd_run 16 ?_;refine zY (.bool ((x.2.2.2.2 : Int) == 25)) hX i3_ ⟨(by congr 1; (try simp at hc1 hc4 hc5 hc7 hc9 hc12 hc13 hc14); unfold madeB; simp [hc1, hc4, hc5, hc7, hc9, hc12, hc13, hc14] <;> (first | rfl | omega | (intros; omega) | (rw [Bool.eq_iff_iff]; simp; omega) | (intros; simp_all; done) | (simp_all; done))), rfl⟩
         ·refine sd_run 20 ?_;refine zY (.bool false) hX i3_ ⟨(by congr 1; (try simp at hc1 hc4 hc5 hc7 hc9 hc12 hc13); unfold madeB; simp [hc1, hc4, hc5, hc7, hc9, hc12, hc13] <;> (first | rfl | omega | (intros; omega) | (rw [Bool.eq_iff_iff]; simp; omega) | (intros; simp_all; done) | (simp_all; done))), rfl⟩
        ·refine sd_run 10 ?_;refine zY (.bool false) hX i3_ ⟨(by congr 1; (try simp at hc1 hc4 hc5 hc7 hc9 hc12); unfold madeB; simp [hc1, hc4, hc5, hc7, hc9, hc12] <;> (first | rfl | omega | (intros; omega) | (rw [Bool.eq_iff_iff]; simp; omega) | (intros; simp_all; done) | (simp_all; done))), rfl⟩
noncomputable def f70b : Code := Try.f70.body.getD .skip
set_option maxHeartbeats 4000000 in
theorem right_s {c : List II} {od rd : List Int} {nd nr hd hr fl nx tg br tk ct vs : Int} (hcl : c.length < 1099511627776) (hol : od.length < 1099511627776) (hrl : rd.length < 1099511627776) (hi : ∀ x ∈ c, 0 ≤ x.2.2.2.2 ∧ x.2.2.2.2 < 4294967296) : SCall Try.prog T15 70 #[(pgV (s5 0 c.length) nd nr hd hr (s1 1 od.length) (s1 2 rd.length) fl nx tg br tk ct vs)] (hq [(iiF c), (inF od), (inF rd)]) fun v h => v = .bool (rightB c od rd nd nr hd hr fl tg br ct vs) ∧ h = hq [(iiF c), (inF od), (inF rd)] := by
 refine zS Try.f70 f70b 118 3 fun X hX => ?_
 refine zB 16 14 ((vs : Int) != (c.length : Int)) (fun hc1 => ?_) fun hc1 => ?_
 ·refine sd_run 37 ?_
  have hR : rightB c od rd nd nr hd hr fl tg br ct vs = false := rightB_no fun h9 => by
   have qvs_ := h9.vs_; have qlen := h9.len; have qnd_ := h9.nd_; have qnr_ := h9.nr_; have qhd_ := h9.hd_; have qhr_ := h9.hr_; have qct_ := h9.ct_; have qfl_ := h9.fl_; have qtg_ := h9.tg_; have qbr_ := h9.br_
   (try simp at hc1); first | omega | (simp_all; done) | (simp_all; omega)
  refine zY (.bool false) hX i3_ ⟨(by rw [hR]), rfl⟩
 ·refine zB 5 19 (decide ((vs : Int) > 64)) (fun hc2 => ?_) fun hc2 => ?_
  ·refine sd_run 32 ?_
   have hR : rightB c od rd nd nr hd hr fl tg br ct vs = false := rightB_no fun h9 => by
    have qvs_ := h9.vs_; have qlen := h9.len; have qnd_ := h9.nd_; have qnr_ := h9.nr_; have qhd_ := h9.hd_; have qhr_ := h9.hr_; have qct_ := h9.ct_; have qfl_ := h9.fl_; have qtg_ := h9.tg_; have qbr_ := h9.br_
    (try simp at hc1 hc2); first | omega | (simp_all; done) | (simp_all; omega)
   refine zY (.bool false) hX i3_ ⟨(by rw [hR]), rfl⟩
  ·refine zB 48 13 (decide ((nd : Int) < 0)) (fun hc3 => ?_) fun hc3 => ?_
   ·refine sd_run 40 ?_
    have hR : rightB c od rd nd nr hd hr fl tg br ct vs = false := rightB_no fun h9 => by
     have qvs_ := h9.vs_; have qlen := h9.len; have qnd_ := h9.nd_; have qnr_ := h9.nr_; have qhd_ := h9.hd_; have qhr_ := h9.hr_; have qct_ := h9.ct_; have qfl_ := h9.fl_; have qtg_ := h9.tg_; have qbr_ := h9.br_
     (try simp at hc1 hc2 hc3); first | omega | (simp_all; done) | (simp_all; omega)
    refine zY (.bool false) hX i3_ ⟨(by rw [hR]), rfl⟩
   ·refine zB 5 16 (decide ((nd : Int) > 16)) (fun hc4 => ?_) fun hc4 => ?_
    ·refine sd_run 35 ?_
     have hR : rightB c od rd nd nr hd hr fl tg br ct vs = false := rightB_no fun h9 => by
      have qvs_ := h9.vs_; have qlen := h9.len; have qnd_ := h9.nd_; have qnr_ := h9.nr_; have qhd_ := h9.hd_; have qhr_ := h9.hr_; have qct_ := h9.ct_; have qfl_ := h9.fl_; have qtg_ := h9.tg_; have qbr_ := h9.br_
      (try simp at hc1 hc2 hc3 hc4); first | omega | (simp_all; done) | (simp_all; omega)
     refine zY (.bool false) hX i3_ ⟨(by rw [hR]), rfl⟩
    ·refine zB 33 13 (decide ((nr : Int) < 0)) (fun hc5 => ?_) fun hc5 => ?_
     ·refine sd_run 40 ?_
      have hR : rightB c od rd nd nr hd hr fl tg br ct vs = false := rightB_no fun h9 => by
       have qvs_ := h9.vs_; have qlen := h9.len; have qnd_ := h9.nd_; have qnr_ := h9.nr_; have qhd_ := h9.hd_; have qhr_ := h9.hr_; have qct_ := h9.ct_; have qfl_ := h9.fl_; have qtg_ := h9.tg_; have qbr_ := h9.br_
       (try simp at hc1 hc2 hc3 hc4 hc5); first | omega | (simp_all; done) | (simp_all; omega)
      refine zY (.bool false) hX i3_ ⟨(by rw [hR]), rfl⟩
     ·refine zB 5 16 (decide ((nr : Int) > 16)) (fun hc6 => ?_) fun hc6 => ?_
      ·refine sd_run 35 ?_
       have hR : rightB c od rd nd nr hd hr fl tg br ct vs = false := rightB_no fun h9 => by
        have qvs_ := h9.vs_; have qlen := h9.len; have qnd_ := h9.nd_; have qnr_ := h9.nr_; have qhd_ := h9.hd_; have qhr_ := h9.hr_; have qct_ := h9.ct_; have qfl_ := h9.fl_; have qtg_ := h9.tg_; have qbr_ := h9.br_
        (try simp at hc1 hc2 hc3 hc4 hc5 hc6); first | omega | (simp_all; done) | (simp_all; omega)
       refine zY (.bool false) hX i3_ ⟨(by rw [hR]), rfl⟩
      ·refine zB 33 13 (decide ((hd : Int) < 0)) (fun hc7 => ?_) fun hc7 => ?_
       ·refine sd_run 40 ?_
        have hR : rightB c od rd nd nr hd hr fl tg br ct vs = false := rightB_no fun h9 => by
         have qvs_ := h9.vs_; have qlen := h9.len; have qnd_ := h9.nd_; have qnr_ := h9.nr_; have qhd_ := h9.hd_; have qhr_ := h9.hr_; have qct_ := h9.ct_; have qfl_ := h9.fl_; have qtg_ := h9.tg_; have qbr_ := h9.br_
         (try simp at hc1 hc2 hc3 hc4 hc5 hc6 hc7); first | omega | (simp_all; done) | (simp_all; omega)
        refine zY (.bool false) hX i3_ ⟨(by rw [hR]), rfl⟩
       ·refine zB 5 16 (decide ((hd : Int) > 16)) (fun hc8 => ?_) fun hc8 => ?_
        ·refine sd_run 35 ?_
         have hR : rightB c od rd nd nr hd hr fl tg br ct vs = false := rightB_no fun h9 => by
          have qvs_ := h9.vs_; have qlen := h9.len; have qnd_ := h9.nd_; have qnr_ := h9.nr_; have qhd_ := h9.hd_; have qhr_ := h9.hr_; have qct_ := h9.ct_; have qfl_ := h9.fl_; have qtg_ := h9.tg_; have qbr_ := h9.br_
          (try simp at hc1 hc2 hc3 hc4 hc5 hc6 hc7 hc8); first | omega | (simp_all; done) | (simp_all; omega)
         refine zY (.bool false) hX i3_ ⟨(by rw [hR]), rfl⟩
        ·refine zB 33 13 (decide ((hr : Int) < 0)) (fun hc9 => ?_) fun hc9 => ?_
         ·refine sd_run 40 ?_
          have hR : rightB c od rd nd nr hd hr fl tg br ct vs = false := rightB_no fun h9 => by
           have qvs_ := h9.vs_; have qlen := h9.len; have qnd_ := h9.nd_; have qnr_ := h9.nr_; have qhd_ := h9.hd_; have qhr_ := h9.hr_; have qct_ := h9.ct_; have qfl_ := h9.fl_; have qtg_ := h9.tg_; have qbr_ := h9.br_
           (try simp at hc1 hc2 hc3 hc4 hc5 hc6 hc7 hc8 hc9); first | omega | (simp_all; done) | (simp_all; omega)
          refine zY (.bool false) hX i3_ ⟨(by rw [hR]), rfl⟩
         ·refine zB 5 16 (decide ((hr : Int) > 16)) (fun hc10 => ?_) fun hc10 => ?_
          ·refine sd_run 35 ?_
           have hR : rightB c od rd nd nr hd hr fl tg br ct vs = false := rightB_no fun h9 => by
            have qvs_ := h9.vs_; have qlen := h9.len; have qnd_ := h9.nd_; have qnr_ := h9.nr_; have qhd_ := h9.hd_; have qhr_ := h9.hr_; have qct_ := h9.ct_; have qfl_ := h9.fl_; have qtg_ := h9.tg_; have qbr_ := h9.br_
            (try simp at hc1 hc2 hc3 hc4 hc5 hc6 hc7 hc8 hc9 hc10); first | omega | (simp_all; done) | (simp_all; omega)
           refine zY (.bool false) hX i3_ ⟨(by rw [hR]), rfl⟩
          ·refine zB 37 37 (decide ((ct : Int) < 1)) (fun hc11 => ?_) fun hc11 => ?_
           ·refine sd_run 14 ?_
            have hR : rightB c od rd nd nr hd hr fl tg br ct vs = false := rightB_no fun h9 => by
             have qvs_ := h9.vs_; have qlen := h9.len; have qnd_ := h9.nd_; have qnr_ := h9.nr_; have qhd_ := h9.hd_; have qhr_ := h9.hr_; have qct_ := h9.ct_; have qfl_ := h9.fl_; have qtg_ := h9.tg_; have qbr_ := h9.br_
             (try simp at hc1 hc2 hc3 hc4 hc5 hc6 hc7 hc8 hc9 hc10 hc11); first | omega | (simp_all; done) | (simp_all; omega)
            refine zY (.bool false) hX i3_ ⟨(by rw [hR]), rfl⟩
           ·refine zB 6 41 (decide ((ct : Int) > 8)) (fun hc12 => ?_) fun hc12 => ?_
            ·refine sd_run 8 ?_
             have hR : rightB c od rd nd nr hd hr fl tg br ct vs = false := rightB_no fun h9 => by
              have qvs_ := h9.vs_; have qlen := h9.len; have qnd_ := h9.nd_; have qnr_ := h9.nr_; have qhd_ := h9.hd_; have qhr_ := h9.hr_; have qct_ := h9.ct_; have qfl_ := h9.fl_; have qtg_ := h9.tg_; have qbr_ := h9.br_
              (try simp at hc1 hc2 hc3 hc4 hc5 hc6 hc7 hc8 hc9 hc10 hc11 hc12); first | omega | (simp_all; done) | (simp_all; omega)
             refine zY (.bool false) hX i3_ ⟨(by rw [hR]), rfl⟩
            ·refine sd_run 13 ?_;have phc1 := hc1
             (try simp at phc1)
             have phc2 := hc2
             (try simp at phc2)
             have phc3 := hc3
             (try simp at phc3)
             have phc4 := hc4
             (try simp at phc4)
             have phc5 := hc5
             (try simp at phc5)
             have phc6 := hc6
             (try simp at phc6)
             have phc7 := hc7
             (try simp at phc7)
             have phc8 := hc8
             (try simp at phc8)
             have phc9 := hc9
             (try simp at phc9)
             have phc10 := hc10
             (try simp at phc10)
             have phc11 := hc11
             (try simp at phc11)
             have phc12 := hc12
             (try simp at phc12)
             refine sd_loop 118 (cl (cl (cr (cl (cr (cr f70b)))))) [.blk 0, .next (cr (cr (cr f70b)))] kr kr kr (fun m9 s9 => ∃ (k : Nat), m9 = c.length - k ∧ (k ≤ c.length) ∧ (∀ (j : Nat) (x : II), j < k → c[j]? = some x → madeB nd nr x (j : Int) = true) ∧ s9 = ⟨tmL [(1, pT 3 0), (44, jN c.length), (45, jI (k : Int))], hq [(iiF c), (inF od), (inF rd), oB 28 [(s5 0 c.length), jI nd, jI nr, jI hd, jI hr, (s1 1 od.length), (s1 2 rd.length), jI fl, jU nx, jI tg, jI br, jU tk, jI ct, jI vs]]⟩) (c.length - 0) _ e4_ hX ⟨0, rfl, zo, (fun j x hj => by omega), rfl⟩ ⟨zs, zt⟩ kr ?_;rintro m9 s9 ⟨k, rfl, i1_0, i1_1, rfl⟩ R1_ hR1_
             by_cases hlt : k < c.length
             ·obtain ⟨a13, ha13⟩ := zR c k;have ia13 := hi _ (List.mem_of_getElem? ha13);refine zT 3 46 ((k : Int) < (c.length : Int)) (sd_run 18 (zG 50 98 #[(pgV (s5 0 c.length) nd nr hd hr (s1 1 od.length) (s1 2 rd.length) fl nx tg br tk ct vs), jI (k : Int)] (@irmade_s c od rd nd nr hd hr fl nx tg br tk ct vs k a13 ha13 ia13 zo zo zo) i3_ ?_));rintro v9 k9 ⟨rfl, rfl⟩;refine ⟨rfl, .bool (madeB nd nr a13 (k : Int)), kr, ?_⟩;refine zB 0 50 (madeB nd nr a13 (k : Int)) (fun hc14 => ?_) fun hc14 => ?_
              ·refine zI 9 52 .i64 ((k + 1 : Nat) : Int) (IntKind.i64.wrap ((k : Int) + 1)) (sd_run 2 ?_);refine sd_inv R1_ kr (hR1_ _ (c.length - (k + 1)) _ e4_ zo ⟨k + 1, rfl, zo, (fun j x hj hx => by rcases (by omega : j < k ∨ j = k) with q | rfl; exact i1_1 j x q hx; rw [ha13] at hx; cases hx; assumption), rfl⟩ ⟨zs, zt⟩ kr)
              ·refine sd_run 15 ?_
               have hR : rightB c od rd nd nr hd hr fl tg br ct vs = false := rightB_no fun h9 => by
                have qvs_ := h9.vs_; have qlen := h9.len; have qnd_ := h9.nd_; have qnr_ := h9.nr_; have qhd_ := h9.hd_; have qhr_ := h9.hr_; have qct_ := h9.ct_; have qfl_ := h9.fl_; have qtg_ := h9.tg_; have qbr_ := h9.br_;have q := h9.code k a13 ha13; simp_all
               refine zY (.bool false) hX i3_ ⟨(by rw [hR]), rfl⟩
             ·have hke : k = c.length := by omega
              refine zF 3 46 ((k : Int) < (c.length : Int)) (sd_run 49 ?_);refine sd_loop 118 (cl (cl (cr (cr (cl (cl (cr (cr (cl (cl (cr (cl (cr (cr (cr f70b))))))))))))))) [.blk 4, .blk 3, .next (cr (cr (cr (cl (cl (cr (cl (cr (cr (cr f70b)))))))))), .loop (cl (cl (cr (cl (cr (cr (cr f70b))))))), .blk 2, .next (cr (cr (cr (cr f70b))))] kr kr kr (fun m9 s9 => ∃ (j : Nat), m9 = od.length - j ∧ (j ≤ od.length) ∧ (∀ (i : Nat) (x : Int), i < j → od[i]? = some x → valB x vs = true) ∧ s9 = ⟨tmL [(1, pT 3 0), (57, sK 4 2 2), (58, jI 2), (59, jI 0), (63, (s1 1 od.length)), (64, jN od.length), (65, jI (j : Int))], hq [(iiF c), (inF od), (inF rd), oB 28 [(s5 0 c.length), jI nd, jI nr, jI hd, jI hr, (s1 1 od.length), (s1 2 rd.length), jI fl, jU nx, jI tg, jI br, jU tk, jI ct, jI vs], oB 26 [(s1 1 od.length), (s1 2 rd.length)]]⟩) (od.length - 0) _ e5_ hX ⟨0, rfl, zo, (fun j x hj => by omega), rfl⟩ ⟨zs, zt⟩ kr ?_;rintro m9 s9 ⟨j, rfl, i2_0, i2_1, rfl⟩ R2_ hR2_
              by_cases hlt_od : j < od.length
              ·obtain ⟨a15, ha15⟩ := zR od j;refine zT 3 66 ((j : Int) < (od.length : Int)) (zX 10 67 (pT 1 (0 + j * 1)) j od.length (zL 0 68 (jI a15) 3 1 0 3 false inC_len ha15 (sd_run 9 ?_)));refine zB 0 72 (valB a15 vs) (fun hc16 => ?_) fun hc16 => ?_
               ·refine zI 9 74 .i64 ((j + 1 : Nat) : Int) (IntKind.i64.wrap ((j : Int) + 1)) (sd_run 2 ?_);refine sd_inv R2_ kr (hR2_ _ (od.length - (j + 1)) _ e5_ zo ⟨j + 1, rfl, zo, (fun i x hj hx => by rcases (by omega : i < j ∨ i = j) with q | rfl; exact i2_1 i x q hx; rw [ha15] at hx; cases hx; assumption), rfl⟩ ⟨zs, zt⟩ kr)
               ·refine sd_run 19 ?_
                have hR : rightB c od rd nd nr hd hr fl tg br ct vs = false := rightB_no fun h9 => by
                 have qvs_ := h9.vs_; have qlen := h9.len; have qnd_ := h9.nd_; have qnr_ := h9.nr_; have qhd_ := h9.hd_; have qhr_ := h9.hr_; have qct_ := h9.ct_; have qfl_ := h9.fl_; have qtg_ := h9.tg_; have qbr_ := h9.br_;have q := h9.od_ j a15 ha15; simp_all
                refine zY (.bool false) hX i3_ ⟨(by rw [hR]), rfl⟩
              ·have hje_od : j = od.length := by omega
               refine zF 3 66 ((j : Int) < (od.length : Int)) (sd_run 42 ?_);refine sd_loop 118 (cl (cl (cr (cr (cl (cl (cr (cr (cl (cl (cr (cl (cr (cr (cr f70b))))))))))))))) [.blk 4, .blk 3, .next (cr (cr (cr (cl (cl (cr (cl (cr (cr (cr f70b)))))))))), .loop (cl (cl (cr (cl (cr (cr (cr f70b))))))), .blk 2, .next (cr (cr (cr (cr f70b))))] kr kr kr (fun m9 s9 => ∃ (j : Nat), m9 = rd.length - j ∧ (j ≤ rd.length) ∧ (∀ (i : Nat) (x : Int), i < j → rd[i]? = some x → valB x vs = true) ∧ s9 = ⟨tmL [(1, pT 3 0), (57, sK 4 2 2), (58, jI 2), (59, jI 1), (63, (s1 2 rd.length)), (64, jN rd.length), (65, jI (j : Int))], hq [(iiF c), (inF od), (inF rd), oB 28 [(s5 0 c.length), jI nd, jI nr, jI hd, jI hr, (s1 1 od.length), (s1 2 rd.length), jI fl, jU nx, jI tg, jI br, jU tk, jI ct, jI vs], oB 26 [(s1 1 od.length), (s1 2 rd.length)]]⟩) (rd.length - 0) _ e5_ hX ⟨0, rfl, zo, (fun j x hj => by omega), rfl⟩ ⟨zs, zt⟩ kr ?_;rintro m9 s9 ⟨j, rfl, i3_0, i3_1, rfl⟩ R3_ hR3_
               by_cases hlt_rd : j < rd.length
               ·obtain ⟨a17, ha17⟩ := zR rd j;refine zT 3 66 ((j : Int) < (rd.length : Int)) (zX 10 67 (pT 2 (0 + j * 1)) j rd.length (zL 0 68 (jI a17) 3 2 0 3 false inC_len ha17 (sd_run 9 ?_)));refine zB 0 72 (valB a17 vs) (fun hc18 => ?_) fun hc18 => ?_
                ·refine zI 9 74 .i64 ((j + 1 : Nat) : Int) (IntKind.i64.wrap ((j : Int) + 1)) (sd_run 2 ?_);refine sd_inv R3_ kr (hR3_ _ (rd.length - (j + 1)) _ e5_ zo ⟨j + 1, rfl, zo, (fun i x hj hx => by rcases (by omega : i < j ∨ i = j) with q | rfl; exact i3_1 i x q hx; rw [ha17] at hx; cases hx; assumption), rfl⟩ ⟨zs, zt⟩ kr)
                ·refine sd_run 19 ?_
                 have hR : rightB c od rd nd nr hd hr fl tg br ct vs = false := rightB_no fun h9 => by
                  have qvs_ := h9.vs_; have qlen := h9.len; have qnd_ := h9.nd_; have qnr_ := h9.nr_; have qhd_ := h9.hd_; have qhr_ := h9.hr_; have qct_ := h9.ct_; have qfl_ := h9.fl_; have qtg_ := h9.tg_; have qbr_ := h9.br_;have q := h9.rd_ j a17 ha17; simp_all
                 refine zY (.bool false) hX i3_ ⟨(by rw [hR]), rfl⟩
               ·have hje_rd : j = rd.length := by omega
                refine zF 3 66 ((j : Int) < (rd.length : Int)) (sd_run 35 ?_);refine zB 0 79 ((fl : Int) != (-1)) (fun hc19 => ?_) fun hc19 => ?_
                ·refine zB 8 87 (!(valB fl vs)) (fun hc20 => ?_) fun hc20 => ?_
                 ·refine sd_run 22 ?_
                  have hR : rightB c od rd nd nr hd hr fl tg br ct vs = false := rightB_no fun h9 => by
                   have qvs_ := h9.vs_; have qlen := h9.len; have qnd_ := h9.nd_; have qnr_ := h9.nr_; have qhd_ := h9.hd_; have qhr_ := h9.hr_; have qct_ := h9.ct_; have qfl_ := h9.fl_; have qtg_ := h9.tg_; have qbr_ := h9.br_
                   (try simp at hc1 hc2 hc3 hc4 hc5 hc6 hc7 hc8 hc9 hc10 hc11 hc12 hc19 hc20); first | omega | (simp_all; done) | (simp_all; omega)
                  refine zY (.bool false) hX i3_ ⟨(by rw [hR]), rfl⟩
                 ·refine zB 4 91 ((tg : Int) != (-1)) (fun hc21 => ?_) fun hc21 => ?_
                  ·refine zB 10 99 (!(valB tg vs)) (fun hc22 => ?_) fun hc22 => ?_
                   ·refine sd_run 8 ?_
                    have hR : rightB c od rd nd nr hd hr fl tg br ct vs = false := rightB_no fun h9 => by
                     have qvs_ := h9.vs_; have qlen := h9.len; have qnd_ := h9.nd_; have qnr_ := h9.nr_; have qhd_ := h9.hd_; have qhr_ := h9.hr_; have qct_ := h9.ct_; have qfl_ := h9.fl_; have qtg_ := h9.tg_; have qbr_ := h9.br_
                     (try simp at hc1 hc2 hc3 hc4 hc5 hc6 hc7 hc8 hc9 hc10 hc11 hc12 hc19 hc20 hc21 hc22); first | omega | (simp_all; done) | (simp_all; omega)
                    refine zY (.bool false) hX i3_ ⟨(by rw [hR]), rfl⟩
                   ·refine zB 9 103 ((br : Int) == 0) (fun hc23 => ?_) fun hc23 => ?_
                    ·refine sd_run 18 ?_
                     have hR : rightB c od rd nd nr hd hr fl tg br ct vs = true := by
                      have phc1 := hc1; have phc2 := hc2; have phc3 := hc3; have phc4 := hc4; have phc5 := hc5; have phc6 := hc6; have phc7 := hc7; have phc8 := hc8; have phc9 := hc9; have phc10 := hc10; have phc11 := hc11; have phc12 := hc12; have phc19 := hc19; have phc20 := hc20; have phc21 := hc21; have phc22 := hc22; have phc23 := hc23; (try simp at phc1 phc2 phc3 phc4 phc5 phc6 phc7 phc8 phc9 phc10 phc11 phc12 phc19 phc20 phc21 phc22 phc23);exact rightB_yes ⟨by omega, by omega, by omega, by omega, by omega, by omega, by omega, fun q x h => i1_1 q x (by have := (List.getElem?_eq_some_iff.1 h).1; omega) h, fun q x h => i2_1 q x (by have := (List.getElem?_eq_some_iff.1 h).1; omega) h, fun q x h => i3_1 q x (by have := (List.getElem?_eq_some_iff.1 h).1; omega) h, by simp_all, by simp_all, by omega⟩
                     refine zY (.bool true) hX i3_ ⟨(by rw [hR]), rfl⟩
                    ·refine zB 4 107 (decide ((br : Int) ≥ 33)) (fun hc24 => ?_) fun hc24 => ?_
                     ·refine zB 5 112 (decide ((br : Int) ≤ 37)) (fun hc25 => ?_) fun hc25 => ?_
                      ·refine zB 9 2 ((tg : Int) == (-1)) (fun hc26 => ?_) fun hc26 => ?_
                       ·have hR : rightB c od rd nd nr hd hr fl tg br ct vs = true := by
                         have phc1 := hc1; have phc2 := hc2; have phc3 := hc3; have phc4 := hc4; have phc5 := hc5; have phc6 := hc6; have phc7 := hc7; have phc8 := hc8; have phc9 := hc9; have phc10 := hc10; have phc11 := hc11; have phc12 := hc12; have phc19 := hc19; have phc20 := hc20; have phc21 := hc21; have phc22 := hc22; have phc23 := hc23; have phc24 := hc24; have phc25 := hc25; have phc26 := hc26; (try simp at phc1 phc2 phc3 phc4 phc5 phc6 phc7 phc8 phc9 phc10 phc11 phc12 phc19 phc20 phc21 phc22 phc23 phc24 phc25 phc26);exact rightB_yes ⟨by omega, by omega, by omega, by omega, by omega, by omega, by omega, fun q x h => i1_1 q x (by have := (List.getElem?_eq_some_iff.1 h).1; omega) h, fun q x h => i2_1 q x (by have := (List.getElem?_eq_some_iff.1 h).1; omega) h, fun q x h => i3_1 q x (by have := (List.getElem?_eq_some_iff.1 h).1; omega) h, by simp_all, by simp_all, by omega⟩
                        refine zY (.bool true) hX i3_ ⟨(by rw [hR]), rfl⟩
                       ·have hR : rightB c od rd nd nr hd hr fl tg br ct vs = false := rightB_no fun h9 => by
                         have qvs_ := h9.vs_; have qlen := h9.len; have qnd_ := h9.nd_; have qnr_ := h9.nr_; have qhd_ := h9.hd_; have qhr_ := h9.hr_; have qct_ := h9.ct_; have qfl_ := h9.fl_; have qtg_ := h9.tg_; have qbr_ := h9.br_
                         (try simp at hc1 hc2 hc3 hc4 hc5 hc6 hc7 hc8 hc9 hc10 hc11 hc12 hc19 hc20 hc21 hc22 hc23 hc24 hc25 hc26); first | omega | (simp_all; done) | (simp_all; omega)
                        refine zY (.bool false) hX i3_ ⟨(by rw [hR]), rfl⟩
                      ·refine sd_run 9 ?_
                       have hR : rightB c od rd nd nr hd hr fl tg br ct vs = false := rightB_no fun h9 => by
                        have qvs_ := h9.vs_; have qlen := h9.len; have qnd_ := h9.nd_; have qnr_ := h9.nr_; have qhd_ := h9.hd_; have qhr_ := h9.hr_; have qct_ := h9.ct_; have qfl_ := h9.fl_; have qtg_ := h9.tg_; have qbr_ := h9.br_
                        (try simp at hc1 hc2 hc3 hc4 hc5 hc6 hc7 hc8 hc9 hc10 hc11 hc12 hc19 hc20 hc21 hc22 hc23 hc24 hc25); first | omega | (simp_all; done) | (simp_all; omega)
                       refine zY (.bool false) hX i3_ ⟨(by rw [hR]), rfl⟩
                     ·refine sd_run 14 ?_
                      have hR : rightB c od rd nd nr hd hr fl tg br ct vs = false := rightB_no fun h9 => by
                       have qvs_ := h9.vs_; have qlen := h9.len; have qnd_ := h9.nd_; have qnr_ := h9.nr_; have qhd_ := h9.hd_; have qhr_ := h9.hr_; have qct_ := h9.ct_; have qfl_ := h9.fl_; have qtg_ := h9.tg_; have qbr_ := h9.br_
                       (try simp at hc1 hc2 hc3 hc4 hc5 hc6 hc7 hc8 hc9 hc10 hc11 hc12 hc19 hc20 hc21 hc22 hc23 hc24); first | omega | (simp_all; done) | (simp_all; omega)
                      refine zY (.bool false) hX i3_ ⟨(by rw [hR]), rfl⟩
                  ·refine zB 19 103 ((br : Int) == 0) (fun hc27 => ?_) fun hc27 => ?_
                   ·refine sd_run 18 ?_
                    have hR : rightB c od rd nd nr hd hr fl tg br ct vs = true := by
                     have phc1 := hc1; have phc2 := hc2; have phc3 := hc3; have phc4 := hc4; have phc5 := hc5; have phc6 := hc6; have phc7 := hc7; have phc8 := hc8; have phc9 := hc9; have phc10 := hc10; have phc11 := hc11; have phc12 := hc12; have phc19 := hc19; have phc20 := hc20; have phc21 := hc21; have phc27 := hc27; (try simp at phc1 phc2 phc3 phc4 phc5 phc6 phc7 phc8 phc9 phc10 phc11 phc12 phc19 phc20 phc21 phc27);exact rightB_yes ⟨by omega, by omega, by omega, by omega, by omega, by omega, by omega, fun q x h => i1_1 q x (by have := (List.getElem?_eq_some_iff.1 h).1; omega) h, fun q x h => i2_1 q x (by have := (List.getElem?_eq_some_iff.1 h).1; omega) h, fun q x h => i3_1 q x (by have := (List.getElem?_eq_some_iff.1 h).1; omega) h, by simp_all, by simp_all, by omega⟩
                    refine zY (.bool true) hX i3_ ⟨(by rw [hR]), rfl⟩
                   ·refine zB 4 107 (decide ((br : Int) ≥ 33)) (fun hc28 => ?_) fun hc28 => ?_
                    ·refine zB 5 112 (decide ((br : Int) ≤ 37)) (fun hc29 => ?_) fun hc29 => ?_
                     ·refine zB 9 2 ((tg : Int) == (-1)) (fun hc30 => ?_) fun hc30 => ?_
                      ·have hR : rightB c od rd nd nr hd hr fl tg br ct vs = true := by
                        have phc1 := hc1; have phc2 := hc2; have phc3 := hc3; have phc4 := hc4; have phc5 := hc5; have phc6 := hc6; have phc7 := hc7; have phc8 := hc8; have phc9 := hc9; have phc10 := hc10; have phc11 := hc11; have phc12 := hc12; have phc19 := hc19; have phc20 := hc20; have phc21 := hc21; have phc27 := hc27; have phc28 := hc28; have phc29 := hc29; have phc30 := hc30; (try simp at phc1 phc2 phc3 phc4 phc5 phc6 phc7 phc8 phc9 phc10 phc11 phc12 phc19 phc20 phc21 phc27 phc28 phc29 phc30);exact rightB_yes ⟨by omega, by omega, by omega, by omega, by omega, by omega, by omega, fun q x h => i1_1 q x (by have := (List.getElem?_eq_some_iff.1 h).1; omega) h, fun q x h => i2_1 q x (by have := (List.getElem?_eq_some_iff.1 h).1; omega) h, fun q x h => i3_1 q x (by have := (List.getElem?_eq_some_iff.1 h).1; omega) h, by simp_all, by simp_all, by omega⟩
                       refine zY (.bool true) hX i3_ ⟨(by rw [hR]), rfl⟩
                      ·have hR : rightB c od rd nd nr hd hr fl tg br ct vs = false := rightB_no fun h9 => by
                        have qvs_ := h9.vs_; have qlen := h9.len; have qnd_ := h9.nd_; have qnr_ := h9.nr_; have qhd_ := h9.hd_; have qhr_ := h9.hr_; have qct_ := h9.ct_; have qfl_ := h9.fl_; have qtg_ := h9.tg_; have qbr_ := h9.br_
                        (try simp at hc1 hc2 hc3 hc4 hc5 hc6 hc7 hc8 hc9 hc10 hc11 hc12 hc19 hc20 hc21 hc27 hc28 hc29 hc30); first | omega | (simp_all; done) | (simp_all; omega)
                       refine zY (.bool false) hX i3_ ⟨(by rw [hR]), rfl⟩
                     ·refine sd_run 9 ?_
                      have hR : rightB c od rd nd nr hd hr fl tg br ct vs = false := rightB_no fun h9 => by
                       have qvs_ := h9.vs_; have qlen := h9.len; have qnd_ := h9.nd_; have qnr_ := h9.nr_; have qhd_ := h9.hd_; have qhr_ := h9.hr_; have qct_ := h9.ct_; have qfl_ := h9.fl_; have qtg_ := h9.tg_; have qbr_ := h9.br_
                       (try simp at hc1 hc2 hc3 hc4 hc5 hc6 hc7 hc8 hc9 hc10 hc11 hc12 hc19 hc20 hc21 hc27 hc28 hc29); first | omega | (simp_all; done) | (simp_all; omega)
                      refine zY (.bool false) hX i3_ ⟨(by rw [hR]), rfl⟩
                    ·refine sd_run 14 ?_
                     have hR : rightB c od rd nd nr hd hr fl tg br ct vs = false := rightB_no fun h9 => by
                      have qvs_ := h9.vs_; have qlen := h9.len; have qnd_ := h9.nd_; have qnr_ := h9.nr_; have qhd_ := h9.hd_; have qhr_ := h9.hr_; have qct_ := h9.ct_; have qfl_ := h9.fl_; have qtg_ := h9.tg_; have qbr_ := h9.br_
                      (try simp at hc1 hc2 hc3 hc4 hc5 hc6 hc7 hc8 hc9 hc10 hc11 hc12 hc19 hc20 hc21 hc27 hc28); first | omega | (simp_all; done) | (simp_all; omega)
                     refine zY (.bool false) hX i3_ ⟨(by rw [hR]), rfl⟩
                ·refine zB 12 91 ((tg : Int) != (-1)) (fun hc31 => ?_) fun hc31 => ?_
                 ·refine zB 10 99 (!(valB tg vs)) (fun hc32 => ?_) fun hc32 => ?_
                  ·refine sd_run 8 ?_
                   have hR : rightB c od rd nd nr hd hr fl tg br ct vs = false := rightB_no fun h9 => by
                    have qvs_ := h9.vs_; have qlen := h9.len; have qnd_ := h9.nd_; have qnr_ := h9.nr_; have qhd_ := h9.hd_; have qhr_ := h9.hr_; have qct_ := h9.ct_; have qfl_ := h9.fl_; have qtg_ := h9.tg_; have qbr_ := h9.br_
                    (try simp at hc1 hc2 hc3 hc4 hc5 hc6 hc7 hc8 hc9 hc10 hc11 hc12 hc19 hc31 hc32); first | omega | (simp_all; done) | (simp_all; omega)
                   refine zY (.bool false) hX i3_ ⟨(by rw [hR]), rfl⟩
                  ·refine zB 9 103 ((br : Int) == 0) (fun hc33 => ?_) fun hc33 => ?_
                   ·refine sd_run 18 ?_
                    have hR : rightB c od rd nd nr hd hr fl tg br ct vs = true := by
                     have phc1 := hc1; have phc2 := hc2; have phc3 := hc3; have phc4 := hc4; have phc5 := hc5; have phc6 := hc6; have phc7 := hc7; have phc8 := hc8; have phc9 := hc9; have phc10 := hc10; have phc11 := hc11; have phc12 := hc12; have phc19 := hc19; have phc31 := hc31; have phc32 := hc32; have phc33 := hc33; (try simp at phc1 phc2 phc3 phc4 phc5 phc6 phc7 phc8 phc9 phc10 phc11 phc12 phc19 phc31 phc32 phc33);exact rightB_yes ⟨by omega, by omega, by omega, by omega, by omega, by omega, by omega, fun q x h => i1_1 q x (by have := (List.getElem?_eq_some_iff.1 h).1; omega) h, fun q x h => i2_1 q x (by have := (List.getElem?_eq_some_iff.1 h).1; omega) h, fun q x h => i3_1 q x (by have := (List.getElem?_eq_some_iff.1 h).1; omega) h, by simp_all, by simp_all, by omega⟩
                    refine zY (.bool true) hX i3_ ⟨(by rw [hR]), rfl⟩
                   ·refine zB 4 107 (decide ((br : Int) ≥ 33)) (fun hc34 => ?_) fun hc34 => ?_
                    ·refine zB 5 112 (decide ((br : Int) ≤ 37)) (fun hc35 => ?_) fun hc35 => ?_
                     ·refine zB 9 2 ((tg : Int) == (-1)) (fun hc36 => ?_) fun hc36 => ?_
                      ·have hR : rightB c od rd nd nr hd hr fl tg br ct vs = true := by
                        have phc1 := hc1; have phc2 := hc2; have phc3 := hc3; have phc4 := hc4; have phc5 := hc5; have phc6 := hc6; have phc7 := hc7; have phc8 := hc8; have phc9 := hc9; have phc10 := hc10; have phc11 := hc11; have phc12 := hc12; have phc19 := hc19; have phc31 := hc31; have phc32 := hc32; have phc33 := hc33; have phc34 := hc34; have phc35 := hc35; have phc36 := hc36; (try simp at phc1 phc2 phc3 phc4 phc5 phc6 phc7 phc8 phc9 phc10 phc11 phc12 phc19 phc31 phc32 phc33 phc34 phc35 phc36);exact rightB_yes ⟨by omega, by omega, by omega, by omega, by omega, by omega, by omega, fun q x h => i1_1 q x (by have := (List.getElem?_eq_some_iff.1 h).1; omega) h, fun q x h => i2_1 q x (by have := (List.getElem?_eq_some_iff.1 h).1; omega) h, fun q x h => i3_1 q x (by have := (List.getElem?_eq_some_iff.1 h).1; omega) h, by simp_all, by simp_all, by omega⟩
                       refine zY (.bool true) hX i3_ ⟨(by rw [hR]), rfl⟩
                      ·have hR : rightB c od rd nd nr hd hr fl tg br ct vs = false := rightB_no fun h9 => by
                        have qvs_ := h9.vs_; have qlen := h9.len; have qnd_ := h9.nd_; have qnr_ := h9.nr_; have qhd_ := h9.hd_; have qhr_ := h9.hr_; have qct_ := h9.ct_; have qfl_ := h9.fl_; have qtg_ := h9.tg_; have qbr_ := h9.br_
                        (try simp at hc1 hc2 hc3 hc4 hc5 hc6 hc7 hc8 hc9 hc10 hc11 hc12 hc19 hc31 hc32 hc33 hc34 hc35 hc36); first | omega | (simp_all; done) | (simp_all; omega)
                       refine zY (.bool false) hX i3_ ⟨(by rw [hR]), rfl⟩
                     ·refine sd_run 9 ?_
                      have hR : rightB c od rd nd nr hd hr fl tg br ct vs = false := rightB_no fun h9 => by
                       have qvs_ := h9.vs_; have qlen := h9.len; have qnd_ := h9.nd_; have qnr_ := h9.nr_; have qhd_ := h9.hd_; have qhr_ := h9.hr_; have qct_ := h9.ct_; have qfl_ := h9.fl_; have qtg_ := h9.tg_; have qbr_ := h9.br_
                       (try simp at hc1 hc2 hc3 hc4 hc5 hc6 hc7 hc8 hc9 hc10 hc11 hc12 hc19 hc31 hc32 hc33 hc34 hc35); first | omega | (simp_all; done) | (simp_all; omega)
                      refine zY (.bool false) hX i3_ ⟨(by rw [hR]), rfl⟩
                    ·refine sd_run 14 ?_
                     have hR : rightB c od rd nd nr hd hr fl tg br ct vs = false := rightB_no fun h9 => by
                      have qvs_ := h9.vs_; have qlen := h9.len; have qnd_ := h9.nd_; have qnr_ := h9.nr_; have qhd_ := h9.hd_; have qhr_ := h9.hr_; have qct_ := h9.ct_; have qfl_ := h9.fl_; have qtg_ := h9.tg_; have qbr_ := h9.br_
                      (try simp at hc1 hc2 hc3 hc4 hc5 hc6 hc7 hc8 hc9 hc10 hc11 hc12 hc19 hc31 hc32 hc33 hc34); first | omega | (simp_all; done) | (simp_all; omega)
                     refine zY (.bool false) hX i3_ ⟨(by rw [hR]), rfl⟩
                 ·refine zB 19 103 ((br : Int) == 0) (fun hc37 => ?_) fun hc37 => ?_
                  ·refine sd_run 18 ?_
                   have hR : rightB c od rd nd nr hd hr fl tg br ct vs = true := by
                    have phc1 := hc1; have phc2 := hc2; have phc3 := hc3; have phc4 := hc4; have phc5 := hc5; have phc6 := hc6; have phc7 := hc7; have phc8 := hc8; have phc9 := hc9; have phc10 := hc10; have phc11 := hc11; have phc12 := hc12; have phc19 := hc19; have phc31 := hc31; have phc37 := hc37; (try simp at phc1 phc2 phc3 phc4 phc5 phc6 phc7 phc8 phc9 phc10 phc11 phc12 phc19 phc31 phc37);exact rightB_yes ⟨by omega, by omega, by omega, by omega, by omega, by omega, by omega, fun q x h => i1_1 q x (by have := (List.getElem?_eq_some_iff.1 h).1; omega) h, fun q x h => i2_1 q x (by have := (List.getElem?_eq_some_iff.1 h).1; omega) h, fun q x h => i3_1 q x (by have := (List.getElem?_eq_some_iff.1 h).1; omega) h, by simp_all, by simp_all, by omega⟩
                   refine zY (.bool true) hX i3_ ⟨(by rw [hR]), rfl⟩
                  ·refine zB 4 107 (decide ((br : Int) ≥ 33)) (fun hc38 => ?_) fun hc38 => ?_
                   ·refine zB 5 112 (decide ((br : Int) ≤ 37)) (fun hc39 => ?_) fun hc39 => ?_
                    ·refine zB 9 2 ((tg : Int) == (-1)) (fun hc40 => ?_) fun hc40 => ?_
                     ·have hR : rightB c od rd nd nr hd hr fl tg br ct vs = true := by
                       have phc1 := hc1; have phc2 := hc2; have phc3 := hc3; have phc4 := hc4; have phc5 := hc5; have phc6 := hc6; have phc7 := hc7; have phc8 := hc8; have phc9 := hc9; have phc10 := hc10; have phc11 := hc11; have phc12 := hc12; have phc19 := hc19; have phc31 := hc31; have phc37 := hc37; have phc38 := hc38; have phc39 := hc39; have phc40 := hc40; (try simp at phc1 phc2 phc3 phc4 phc5 phc6 phc7 phc8 phc9 phc10 phc11 phc12 phc19 phc31 phc37 phc38 phc39 phc40);exact rightB_yes ⟨by omega, by omega, by omega, by omega, by omega, by omega, by omega, fun q x h => i1_1 q x (by have := (List.getElem?_eq_some_iff.1 h).1; omega) h, fun q x h => i2_1 q x (by have := (List.getElem?_eq_some_iff.1 h).1; omega) h, fun q x h => i3_1 q x (by have := (List.getElem?_eq_some_iff.1 h).1; omega) h, by simp_all, by simp_all, by omega⟩
                      refine zY (.bool true) hX i3_ ⟨(by rw [hR]), rfl⟩
                     ·have hR : rightB c od rd nd nr hd hr fl tg br ct vs = false := rightB_no fun h9 => by
                       have qvs_ := h9.vs_; have qlen := h9.len; have qnd_ := h9.nd_; have qnr_ := h9.nr_; have qhd_ := h9.hd_; have qhr_ := h9.hr_; have qct_ := h9.ct_; have qfl_ := h9.fl_; have qtg_ := h9.tg_; have qbr_ := h9.br_
                       (try simp at hc1 hc2 hc3 hc4 hc5 hc6 hc7 hc8 hc9 hc10 hc11 hc12 hc19 hc31 hc37 hc38 hc39 hc40); first | omega | (simp_all; done) | (simp_all; omega)
                      refine zY (.bool false) hX i3_ ⟨(by rw [hR]), rfl⟩
                    ·refine sd_run 9 ?_
                     have hR : rightB c od rd nd nr hd hr fl tg br ct vs = false := rightB_no fun h9 => by
                      have qvs_ := h9.vs_; have qlen := h9.len; have qnd_ := h9.nd_; have qnr_ := h9.nr_; have qhd_ := h9.hd_; have qhr_ := h9.hr_; have qct_ := h9.ct_; have qfl_ := h9.fl_; have qtg_ := h9.tg_; have qbr_ := h9.br_
                      (try simp at hc1 hc2 hc3 hc4 hc5 hc6 hc7 hc8 hc9 hc10 hc11 hc12 hc19 hc31 hc37 hc38 hc39); first | omega | (simp_all; done) | (simp_all; omega)
                     refine zY (.bool false) hX i3_ ⟨(by rw [hR]), rfl⟩
                   ·refine sd_run 14 ?_
                    have hR : rightB c od rd nd nr hd hr fl tg br ct vs = false := rightB_no fun h9 => by
                     have qvs_ := h9.vs_; have qlen := h9.len; have qnd_ := h9.nd_; have qnr_ := h9.nr_; have qhd_ := h9.hd_; have qhr_ := h9.hr_; have qct_ := h9.ct_; have qfl_ := h9.fl_; have qtg_ := h9.tg_; have qbr_ := h9.br_
                     (try simp at hc1 hc2 hc3 hc4 hc5 hc6 hc7 hc8 hc9 hc10 hc11 hc12 hc19 hc31 hc37 hc38); first | omega | (simp_all; done) | (simp_all; omega)
                    refine zY (.bool false) hX i3_ ⟨(by rw [hR]), rfl⟩
end Ls
end Go.Proofs.Ytihacfclecanjaa
