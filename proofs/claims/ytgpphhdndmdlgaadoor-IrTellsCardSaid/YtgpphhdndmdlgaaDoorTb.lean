/- Chapter 19: the document: which blocks may be. -/
import Derived.Test.YtgpphhdndmdlgaaDoorTa
namespace Go.Proofs.YtgpphhdndmdlgaaDoor
open Go Go.Ev Go.RowKit
set_option linter.unusedVariables false
set_option linter.unusedSimpArgs false
set_option maxRecDepth 100000
namespace Ls
noncomputable def f17b : Code := Tryd.f17.body.getD .skip
theorem f17_body : Tryd.f17.body = some f17b := by kernel_rfl
theorem f17_fn : T20.fn 17 = some Tryd.f17 := by kernel_rfl
theorem valB_iff {n k : Int} : valB n k = true ↔ 0 ≤ n ∧ n < k := by simp [valB]
theorem made_dst {nd nr k : Int} {x : II} (h : madeB nd nr x k = true) : x.2.1 = k := by
 unfold madeB at h; simp only [Bool.and_eq_true, decide_eq_true_eq] at h; exact h.1
set_option maxHeartbeats 4000000 in
theorem rright_any {c : List II} {od rd : List Int} {nd nr hd hr fl nx tg br tk ct vs : Int} (hcl : c.length < 100000) (hol : od.length < 100000) (hrl : rd.length < 100000) (hi : ∀ x ∈ c, 0 ≤ x.2.2.2.2 ∧ x.2.2.2.2 < 4294967296) : SCall Tryd.prog T20 17 #[(pgV (s5 0 c.length) nd nr hd hr (s1 1 od.length) (s1 2 rd.length) fl nx tg br tk ct vs)] (hq [(iiCo c false), (inCo od false), (inCo rd false)]) fun v h => v = .bool (rightB c od rd nd nr hd hr fl tg br ct vs) ∧ h = hq [(iiCo c false), (inCo od false), (inCo rd false)] := by
 refine scall_sd 145 _ 3 kr f17_fn f17_body rfl rfl rfl fun X hX => ?_
 refine sd_run 22 ?_
 rcases Bool.eq_false_or_eq_true ((vs : Int) != (c.length : Int)) with hc1 | hc1
 ·skip
  refine sd_see 17 (.bool true) (see_bool kr hc1) (sd_run 43 ?_)
  have hR : rightB c od rd nd nr hd hr fl tg br ct vs = false := rightB_no fun h9 => by
   have qvs_ := h9.vs_; have qlen := h9.len; have qnd_ := h9.nd_; have qnr_ := h9.nr_; have qhd_ := h9.hd_; have qhr_ := h9.hr_; have qct_ := h9.ct_; have qfl_ := h9.fl_; have qtg_ := h9.tg_; have qbr_ := h9.br_
   have qfl2 : fl = -1 ∨ (0 ≤ fl ∧ fl < vs) := h9.fl_.imp id valB_iff.1; have qtg2 : tg = -1 ∨ (0 ≤ tg ∧ tg < vs) := h9.tg_.imp id valB_iff.1; (try simp at hc1); omega
  refine sdY (.bool false) hX [(iiCo c false), (inCo od false), (inCo rd false)] i3_ ⟨iiC_b, inC_b, inC_b, ⟨⟩⟩ ⟨(by rw [hR]), rfl⟩
 ·skip
  refine sd_see 17 (.bool false) (see_bool kr hc1) (sd_run 4 ?_)
  rcases Bool.eq_false_or_eq_true (decide ((c.length : Int) > 64)) with hc2 | hc2
  ·skip
   refine sd_see 21 (.bool true) (see_bool kr hc2) (sd_run 39 ?_)
   have hR : rightB c od rd nd nr hd hr fl tg br ct vs = false := rightB_no fun h9 => by
    have qvs_ := h9.vs_; have qlen := h9.len; have qnd_ := h9.nd_; have qnr_ := h9.nr_; have qhd_ := h9.hd_; have qhr_ := h9.hr_; have qct_ := h9.ct_; have qfl_ := h9.fl_; have qtg_ := h9.tg_; have qbr_ := h9.br_
    have qfl2 : fl = -1 ∨ (0 ≤ fl ∧ fl < vs) := h9.fl_.imp id valB_iff.1; have qtg2 : tg = -1 ∨ (0 ≤ tg ∧ tg < vs) := h9.tg_.imp id valB_iff.1; (try simp at hc1 hc2); omega
   refine sdY (.bool false) hX [(iiCo c false), (inCo od false), (inCo rd false)] i3_ ⟨iiC_b, inC_b, inC_b, ⟨⟩⟩ ⟨(by rw [hR]), rfl⟩
  ·skip
   refine sd_see 21 (.bool false) (see_bool kr hc2) (sd_run 5 ?_)
   rcases Bool.eq_false_or_eq_true (decide ((ct : Int) < 1)) with hc3 | hc3
   ·skip
    refine sd_see 26 (.bool true) (see_bool kr hc3) (sd_run 34 ?_)
    have hR : rightB c od rd nd nr hd hr fl tg br ct vs = false := rightB_no fun h9 => by
     have qvs_ := h9.vs_; have qlen := h9.len; have qnd_ := h9.nd_; have qnr_ := h9.nr_; have qhd_ := h9.hd_; have qhr_ := h9.hr_; have qct_ := h9.ct_; have qfl_ := h9.fl_; have qtg_ := h9.tg_; have qbr_ := h9.br_
     have qfl2 : fl = -1 ∨ (0 ≤ fl ∧ fl < vs) := h9.fl_.imp id valB_iff.1; have qtg2 : tg = -1 ∨ (0 ≤ tg ∧ tg < vs) := h9.tg_.imp id valB_iff.1; (try simp at hc1 hc2 hc3); omega
    refine sdY (.bool false) hX [(iiCo c false), (inCo od false), (inCo rd false)] i3_ ⟨iiC_b, inC_b, inC_b, ⟨⟩⟩ ⟨(by rw [hR]), rfl⟩
   ·skip
    refine sd_see 26 (.bool false) (see_bool kr hc3) (sd_run 5 ?_)
    rcases Bool.eq_false_or_eq_true (decide ((ct : Int) > 8)) with hc4 | hc4
    ·skip
     refine sd_see 31 (.bool true) (see_bool kr hc4) (sd_run 29 ?_)
     have hR : rightB c od rd nd nr hd hr fl tg br ct vs = false := rightB_no fun h9 => by
      have qvs_ := h9.vs_; have qlen := h9.len; have qnd_ := h9.nd_; have qnr_ := h9.nr_; have qhd_ := h9.hd_; have qhr_ := h9.hr_; have qct_ := h9.ct_; have qfl_ := h9.fl_; have qtg_ := h9.tg_; have qbr_ := h9.br_
      have qfl2 : fl = -1 ∨ (0 ≤ fl ∧ fl < vs) := h9.fl_.imp id valB_iff.1; have qtg2 : tg = -1 ∨ (0 ≤ tg ∧ tg < vs) := h9.tg_.imp id valB_iff.1; (try simp at hc1 hc2 hc3 hc4); omega
     refine sdY (.bool false) hX [(iiCo c false), (inCo od false), (inCo rd false)] i3_ ⟨iiC_b, inC_b, inC_b, ⟨⟩⟩ ⟨(by rw [hR]), rfl⟩
    ·skip
     refine sd_see 31 (.bool false) (see_bool kr hc4) (sd_run 4 ?_)
     rcases Bool.eq_false_or_eq_true ((br : Int) != 0) with hc5 | hc5
     ·skip
      refine sd_see 35 (.bool true) (see_bool kr hc5) (sd_run 4 ?_)
      rcases Bool.eq_false_or_eq_true (decide ((br : Int) < 33)) with hc6 | hc6
      ·skip
       refine sd_see 39 (.bool true) (see_bool kr hc6) (sd_run 21 ?_)
       have hR : rightB c od rd nd nr hd hr fl tg br ct vs = false := rightB_no fun h9 => by
        have qvs_ := h9.vs_; have qlen := h9.len; have qnd_ := h9.nd_; have qnr_ := h9.nr_; have qhd_ := h9.hd_; have qhr_ := h9.hr_; have qct_ := h9.ct_; have qfl_ := h9.fl_; have qtg_ := h9.tg_; have qbr_ := h9.br_
        have qfl2 : fl = -1 ∨ (0 ≤ fl ∧ fl < vs) := h9.fl_.imp id valB_iff.1; have qtg2 : tg = -1 ∨ (0 ≤ tg ∧ tg < vs) := h9.tg_.imp id valB_iff.1; (try simp at hc1 hc2 hc3 hc4 hc5 hc6); omega
       refine sdY (.bool false) hX [(iiCo c false), (inCo od false), (inCo rd false)] i3_ ⟨iiC_b, inC_b, inC_b, ⟨⟩⟩ ⟨(by rw [hR]), rfl⟩
      ·skip
       refine sd_see 39 (.bool false) (see_bool kr hc6) (sd_run 5 ?_)
       rcases Bool.eq_false_or_eq_true (decide ((br : Int) > 37)) with hc7 | hc7
       ·skip
        refine sd_see 44 (.bool true) (see_bool kr hc7) (sd_run 16 ?_)
        have hR : rightB c od rd nd nr hd hr fl tg br ct vs = false := rightB_no fun h9 => by
         have qvs_ := h9.vs_; have qlen := h9.len; have qnd_ := h9.nd_; have qnr_ := h9.nr_; have qhd_ := h9.hd_; have qhr_ := h9.hr_; have qct_ := h9.ct_; have qfl_ := h9.fl_; have qtg_ := h9.tg_; have qbr_ := h9.br_
         have qfl2 : fl = -1 ∨ (0 ≤ fl ∧ fl < vs) := h9.fl_.imp id valB_iff.1; have qtg2 : tg = -1 ∨ (0 ≤ tg ∧ tg < vs) := h9.tg_.imp id valB_iff.1; (try simp at hc1 hc2 hc3 hc4 hc5 hc6 hc7); omega
        refine sdY (.bool false) hX [(iiCo c false), (inCo od false), (inCo rd false)] i3_ ⟨iiC_b, inC_b, inC_b, ⟨⟩⟩ ⟨(by rw [hR]), rfl⟩
       ·skip
        refine sd_see 44 (.bool false) (see_bool kr hc7) (sd_run 8 ?_)
        rcases Bool.eq_false_or_eq_true ((tg : Int) != (-1)) with hc8 | hc8
        ·skip
         refine sd_see 50 (.bool true) (see_bool kr hc8) (sd_run 8 ?_)
         have hR : rightB c od rd nd nr hd hr fl tg br ct vs = false := rightB_no fun h9 => by
          have qvs_ := h9.vs_; have qlen := h9.len; have qnd_ := h9.nd_; have qnr_ := h9.nr_; have qhd_ := h9.hd_; have qhr_ := h9.hr_; have qct_ := h9.ct_; have qfl_ := h9.fl_; have qtg_ := h9.tg_; have qbr_ := h9.br_
          have qfl2 : fl = -1 ∨ (0 ≤ fl ∧ fl < vs) := h9.fl_.imp id valB_iff.1; have qtg2 : tg = -1 ∨ (0 ≤ tg ∧ tg < vs) := h9.tg_.imp id valB_iff.1; (try simp at hc1 hc2 hc3 hc4 hc5 hc6 hc7 hc8); omega
         refine sdY (.bool false) hX [(iiCo c false), (inCo od false), (inCo rd false)] i3_ ⟨iiC_b, inC_b, inC_b, ⟨⟩⟩ ⟨(by rw [hR]), rfl⟩
        ·skip
         refine sd_see 50 (.bool false) (see_bool kr hc8) (sd_run 44 ?_)
         rcases Bool.eq_false_or_eq_true (decide ((nd : Int) < 0)) with hc9 | hc9
         ·skip
          refine sd_see 67 (.bool true) (see_bool kr hc9) (sd_run 17 ?_)
          have hR : rightB c od rd nd nr hd hr fl tg br ct vs = false := rightB_no fun h9 => by
           have qvs_ := h9.vs_; have qlen := h9.len; have qnd_ := h9.nd_; have qnr_ := h9.nr_; have qhd_ := h9.hd_; have qhr_ := h9.hr_; have qct_ := h9.ct_; have qfl_ := h9.fl_; have qtg_ := h9.tg_; have qbr_ := h9.br_
           have qfl2 : fl = -1 ∨ (0 ≤ fl ∧ fl < vs) := h9.fl_.imp id valB_iff.1; have qtg2 : tg = -1 ∨ (0 ≤ tg ∧ tg < vs) := h9.tg_.imp id valB_iff.1; (try simp at hc1 hc2 hc3 hc4 hc5 hc6 hc7 hc8 hc9); omega
          refine sdY (.bool false) hX [(iiCo c false), (inCo od false), (inCo rd false)] i3_ ⟨iiC_b, inC_b, inC_b, ⟨⟩⟩ ⟨(by rw [hR]), rfl⟩
         ·skip
          refine sd_see 67 (.bool false) (see_bool kr hc9) (sd_run 5 ?_)
          rcases Bool.eq_false_or_eq_true (decide ((nd : Int) > 16)) with hc10 | hc10
          ·skip
           refine sd_see 70 (.bool true) (see_bool kr hc10) (sd_run 12 ?_)
           have hR : rightB c od rd nd nr hd hr fl tg br ct vs = false := rightB_no fun h9 => by
            have qvs_ := h9.vs_; have qlen := h9.len; have qnd_ := h9.nd_; have qnr_ := h9.nr_; have qhd_ := h9.hd_; have qhr_ := h9.hr_; have qct_ := h9.ct_; have qfl_ := h9.fl_; have qtg_ := h9.tg_; have qbr_ := h9.br_
            have qfl2 : fl = -1 ∨ (0 ≤ fl ∧ fl < vs) := h9.fl_.imp id valB_iff.1; have qtg2 : tg = -1 ∨ (0 ≤ tg ∧ tg < vs) := h9.tg_.imp id valB_iff.1; (try simp at hc1 hc2 hc3 hc4 hc5 hc6 hc7 hc8 hc9 hc10); omega
           refine sdY (.bool false) hX [(iiCo c false), (inCo od false), (inCo rd false)] i3_ ⟨iiC_b, inC_b, inC_b, ⟨⟩⟩ ⟨(by rw [hR]), rfl⟩
          ·skip
           refine sd_see 70 (.bool false) (see_bool kr hc10) (sd_run 33 ?_)
           rcases Bool.eq_false_or_eq_true (decide ((nr : Int) < 0)) with hc11 | hc11
           ·skip
            refine sd_see 67 (.bool true) (see_bool kr hc11) (sd_run 17 ?_)
            have hR : rightB c od rd nd nr hd hr fl tg br ct vs = false := rightB_no fun h9 => by
             have qvs_ := h9.vs_; have qlen := h9.len; have qnd_ := h9.nd_; have qnr_ := h9.nr_; have qhd_ := h9.hd_; have qhr_ := h9.hr_; have qct_ := h9.ct_; have qfl_ := h9.fl_; have qtg_ := h9.tg_; have qbr_ := h9.br_
             have qfl2 : fl = -1 ∨ (0 ≤ fl ∧ fl < vs) := h9.fl_.imp id valB_iff.1; have qtg2 : tg = -1 ∨ (0 ≤ tg ∧ tg < vs) := h9.tg_.imp id valB_iff.1; (try simp at hc1 hc2 hc3 hc4 hc5 hc6 hc7 hc8 hc9 hc10 hc11); omega
            refine sdY (.bool false) hX [(iiCo c false), (inCo od false), (inCo rd false)] i3_ ⟨iiC_b, inC_b, inC_b, ⟨⟩⟩ ⟨(by rw [hR]), rfl⟩
           ·skip
            refine sd_see 67 (.bool false) (see_bool kr hc11) (sd_run 5 ?_)
            rcases Bool.eq_false_or_eq_true (decide ((nr : Int) > 16)) with hc12 | hc12
            ·skip
             refine sd_see 70 (.bool true) (see_bool kr hc12) (sd_run 12 ?_)
             have hR : rightB c od rd nd nr hd hr fl tg br ct vs = false := rightB_no fun h9 => by
              have qvs_ := h9.vs_; have qlen := h9.len; have qnd_ := h9.nd_; have qnr_ := h9.nr_; have qhd_ := h9.hd_; have qhr_ := h9.hr_; have qct_ := h9.ct_; have qfl_ := h9.fl_; have qtg_ := h9.tg_; have qbr_ := h9.br_
              have qfl2 : fl = -1 ∨ (0 ≤ fl ∧ fl < vs) := h9.fl_.imp id valB_iff.1; have qtg2 : tg = -1 ∨ (0 ≤ tg ∧ tg < vs) := h9.tg_.imp id valB_iff.1; (try simp at hc1 hc2 hc3 hc4 hc5 hc6 hc7 hc8 hc9 hc10 hc11 hc12); omega
             refine sdY (.bool false) hX [(iiCo c false), (inCo od false), (inCo rd false)] i3_ ⟨iiC_b, inC_b, inC_b, ⟨⟩⟩ ⟨(by rw [hR]), rfl⟩
            ·skip
             refine sd_see 70 (.bool false) (see_bool kr hc12) (sd_run 33 ?_)
             rcases Bool.eq_false_or_eq_true (decide ((hd : Int) < 0)) with hc13 | hc13
             ·skip
              refine sd_see 67 (.bool true) (see_bool kr hc13) (sd_run 17 ?_)
              have hR : rightB c od rd nd nr hd hr fl tg br ct vs = false := rightB_no fun h9 => by
               have qvs_ := h9.vs_; have qlen := h9.len; have qnd_ := h9.nd_; have qnr_ := h9.nr_; have qhd_ := h9.hd_; have qhr_ := h9.hr_; have qct_ := h9.ct_; have qfl_ := h9.fl_; have qtg_ := h9.tg_; have qbr_ := h9.br_
               have qfl2 : fl = -1 ∨ (0 ≤ fl ∧ fl < vs) := h9.fl_.imp id valB_iff.1; have qtg2 : tg = -1 ∨ (0 ≤ tg ∧ tg < vs) := h9.tg_.imp id valB_iff.1; (try simp at hc1 hc2 hc3 hc4 hc5 hc6 hc7 hc8 hc9 hc10 hc11 hc12 hc13); omega
              refine sdY (.bool false) hX [(iiCo c false), (inCo od false), (inCo rd false)] i3_ ⟨iiC_b, inC_b, inC_b, ⟨⟩⟩ ⟨(by rw [hR]), rfl⟩
             ·skip
              refine sd_see 67 (.bool false) (see_bool kr hc13) (sd_run 5 ?_)
              rcases Bool.eq_false_or_eq_true (decide ((hd : Int) > 16)) with hc14 | hc14
              ·skip
               refine sd_see 70 (.bool true) (see_bool kr hc14) (sd_run 12 ?_)
               have hR : rightB c od rd nd nr hd hr fl tg br ct vs = false := rightB_no fun h9 => by
                have qvs_ := h9.vs_; have qlen := h9.len; have qnd_ := h9.nd_; have qnr_ := h9.nr_; have qhd_ := h9.hd_; have qhr_ := h9.hr_; have qct_ := h9.ct_; have qfl_ := h9.fl_; have qtg_ := h9.tg_; have qbr_ := h9.br_
                have qfl2 : fl = -1 ∨ (0 ≤ fl ∧ fl < vs) := h9.fl_.imp id valB_iff.1; have qtg2 : tg = -1 ∨ (0 ≤ tg ∧ tg < vs) := h9.tg_.imp id valB_iff.1; (try simp at hc1 hc2 hc3 hc4 hc5 hc6 hc7 hc8 hc9 hc10 hc11 hc12 hc13 hc14); omega
               refine sdY (.bool false) hX [(iiCo c false), (inCo od false), (inCo rd false)] i3_ ⟨iiC_b, inC_b, inC_b, ⟨⟩⟩ ⟨(by rw [hR]), rfl⟩
              ·skip
               refine sd_see 70 (.bool false) (see_bool kr hc14) (sd_run 33 ?_)
               rcases Bool.eq_false_or_eq_true (decide ((hr : Int) < 0)) with hc15 | hc15
               ·skip
                refine sd_see 67 (.bool true) (see_bool kr hc15) (sd_run 17 ?_)
                have hR : rightB c od rd nd nr hd hr fl tg br ct vs = false := rightB_no fun h9 => by
                 have qvs_ := h9.vs_; have qlen := h9.len; have qnd_ := h9.nd_; have qnr_ := h9.nr_; have qhd_ := h9.hd_; have qhr_ := h9.hr_; have qct_ := h9.ct_; have qfl_ := h9.fl_; have qtg_ := h9.tg_; have qbr_ := h9.br_
                 have qfl2 : fl = -1 ∨ (0 ≤ fl ∧ fl < vs) := h9.fl_.imp id valB_iff.1; have qtg2 : tg = -1 ∨ (0 ≤ tg ∧ tg < vs) := h9.tg_.imp id valB_iff.1; (try simp at hc1 hc2 hc3 hc4 hc5 hc6 hc7 hc8 hc9 hc10 hc11 hc12 hc13 hc14 hc15); omega
                refine sdY (.bool false) hX [(iiCo c false), (inCo od false), (inCo rd false)] i3_ ⟨iiC_b, inC_b, inC_b, ⟨⟩⟩ ⟨(by rw [hR]), rfl⟩
               ·skip
                refine sd_see 67 (.bool false) (see_bool kr hc15) (sd_run 5 ?_)
                rcases Bool.eq_false_or_eq_true (decide ((hr : Int) > 16)) with hc16 | hc16
                ·skip
                 refine sd_see 70 (.bool true) (see_bool kr hc16) (sd_run 12 ?_)
                 have hR : rightB c od rd nd nr hd hr fl tg br ct vs = false := rightB_no fun h9 => by
                  have qvs_ := h9.vs_; have qlen := h9.len; have qnd_ := h9.nd_; have qnr_ := h9.nr_; have qhd_ := h9.hd_; have qhr_ := h9.hr_; have qct_ := h9.ct_; have qfl_ := h9.fl_; have qtg_ := h9.tg_; have qbr_ := h9.br_
                  have qfl2 : fl = -1 ∨ (0 ≤ fl ∧ fl < vs) := h9.fl_.imp id valB_iff.1; have qtg2 : tg = -1 ∨ (0 ≤ tg ∧ tg < vs) := h9.tg_.imp id valB_iff.1; (try simp at hc1 hc2 hc3 hc4 hc5 hc6 hc7 hc8 hc9 hc10 hc11 hc12 hc13 hc14 hc15 hc16); omega
                 refine sdY (.bool false) hX [(iiCo c false), (inCo od false), (inCo rd false)] i3_ ⟨iiC_b, inC_b, inC_b, ⟨⟩⟩ ⟨(by rw [hR]), rfl⟩
                ·skip
                 refine sd_see 70 (.bool false) (see_bool kr hc16) (sd_run 29 ?_)
                 have phc1 := hc1
                 (try simp at phc1)
                 have phc2 := hc2
                 (try simp at phc2)
                 have phc3 := hc3
                 (try simp at phc3)
                 have phc4 := hc4
                 (try simp at phc4)
                 have phc5 := hc5
                 (try simp at phc5)
                 have phc6 := hc6
                 (try simp at phc6)
                 have phc7 := hc7
                 (try simp at phc7)
                 have phc8 := hc8
                 (try simp at phc8)
                 have phc9 := hc9
                 (try simp at phc9)
                 have phc10 := hc10
                 (try simp at phc10)
                 have phc11 := hc11
                 (try simp at phc11)
                 have phc12 := hc12
                 (try simp at phc12)
                 have phc13 := hc13
                 (try simp at phc13)
                 have phc14 := hc14
                 (try simp at phc14)
                 have phc15 := hc15
                 (try simp at phc15)
                 have phc16 := hc16
                 (try simp at phc16)
                 refine sd_loop 145 (cl (cl (cr (cl (cr (cr (cr (cr f17b)))))))) [.blk 2, .next (cr (cr (cr (cr (cr f17b)))))] kr kr kr (fun m9 s9 => ∃ (k : Nat), m9 = c.length - k ∧ (k ≤ c.length) ∧ (∀ (j : Nat) (x : II), j < k → c[j]? = some x → madeB nd nr x (j : Int) = true) ∧ s9 = ⟨tmL [(1, .pointer (some ⟨3, 0, none⟩)), (3, .int .i64 (c.length : Int)), (6, .int .i64 (k : Int))], hq [(iiCo c false), (inCo od false), (inCo rd false), some ⟨(pgL (s5 0 c.length) nd nr hd hr (s1 1 od.length) (s1 2 rd.length) fl nx tg br tk ct vs), 32, false⟩]⟩) (c.length - 0) _ e4_ hX ⟨0, rfl, (by omega), (fun j x hj => by omega), rfl⟩ ⟨sub_of kr kr ⟨iiC_b, inC_b, inC_b, brn, ⟨⟩⟩, te_of kr kr⟩ kr ?_
                 rintro m9 s9 ⟨k, rfl, i1_0, i1_1, rfl⟩ R1_ hR1_
                 by_cases hlt : k < c.length
                 ·skip
                  obtain ⟨a17, ha17⟩ : ∃ x_, (c)[k]? = some x_ := ⟨_, List.getElem?_eq_getElem (by omega)⟩
                  have ia17 := hi _ (List.mem_of_getElem? ha17)
                  refine sd_run 6 (sdT 74 ((k : Int) < (c.length : Int)) (by omega) kr (sd_run 12 (sd_ix 80 (.pointer (some ⟨0, 0 + k * 5, none⟩)) k c.length kr kr kr (by omega) (sd_run 1 (sd_ld 82 (.int .i64 a17.2.1) 3 (.pointer (some ⟨0, 0 + k * 5 + 1, none⟩)) kr kr kr (ld_cell (l := c) (e := 41) (ro := false) (k := k) (j := 1) iiC_len kr kr kr ha17 rfl) (sd_run 3 ?_))))))
                  rcases Bool.eq_false_or_eq_true ((a17.2.1 : Int) != (k : Int)) with hc18 | hc18
                  ·skip
                   refine sd_see 85 (.bool true) (see_bool kr hc18) (sd_run 23 ?_)
                   have hR : rightB c od rd nd nr hd hr fl tg br ct vs = false := rightB_no fun h9 => by
                    have qvs_ := h9.vs_; have qlen := h9.len; have qnd_ := h9.nd_; have qnr_ := h9.nr_; have qhd_ := h9.hd_; have qhr_ := h9.hr_; have qct_ := h9.ct_; have qfl_ := h9.fl_; have qtg_ := h9.tg_; have qbr_ := h9.br_
                    have q := h9.code k a17 ha17; have q2 := made_dst q; rw [← q2] at q; first | (simp [q2] at hc18; done) | (simp at hc18; rw [q] at hc18; cases hc18)
                   refine sdY (.bool false) hX [(iiCo c false), (inCo od false), (inCo rd false)] i3_ ⟨iiC_b, inC_b, inC_b, ⟨⟩⟩ ⟨(by rw [hR]), rfl⟩
                  ·skip
                   refine sd_see 85 (.bool false) (see_bool kr hc18) (sd_run 4 (sd_ix 90 (.pointer (some ⟨0, 0 + k * 5, none⟩)) k c.length kr kr kr (by omega) (sd_ld 91 (c5A a17.1 a17.2.1 a17.2.2.1 a17.2.2.2.1 a17.2.2.2.2) 41 (.pointer (some ⟨0, 0 + k * 5, none⟩)) kr kr kr (ld_row (l := c) (e := 41) (ro := false) (k := k) iiC_len kr kr kr ha17) (sdCp 92 36 #[(pgV (s5 0 c.length) nd nr hd hr (s1 1 od.length) (s1 2 rd.length) fl nx tg br tk ct vs), (c5A a17.1 a17.2.1 a17.2.2.1 a17.2.2.2.1 a17.2.2.2.2)] (@rr1_any c od rd nd nr hd hr fl nx tg br tk ct vs a17.1 a17.2.1 a17.2.2.1 a17.2.2.2.1 a17.2.2.2.2 ia17 (by omega) (by omega)) i3_ ⟨iiC_b, inC_b, inC_b, ⟨⟩⟩ ?_))))
                   rintro v9 k9 ⟨rfl, rfl⟩
                   refine ⟨rfl, .bool (madeB nd nr (a17.1, a17.2.1, a17.2.2.1, a17.2.2.2.1, a17.2.2.2.2) a17.2.1), kr, ?_⟩
                   refine sd_run 4 ?_
                   rcases Bool.eq_false_or_eq_true (!(madeB nd nr (a17.1, a17.2.1, a17.2.2.1, a17.2.2.2.1, a17.2.2.2.2) a17.2.1)) with hc19 | hc19
                   ·skip
                    refine sd_see 94 (.bool true) (see_bool kr hc19) (sd_run 12 ?_)
                    have hR : rightB c od rd nd nr hd hr fl tg br ct vs = false := rightB_no fun h9 => by
                     have qvs_ := h9.vs_; have qlen := h9.len; have qnd_ := h9.nd_; have qnr_ := h9.nr_; have qhd_ := h9.hd_; have qhr_ := h9.hr_; have qct_ := h9.ct_; have qfl_ := h9.fl_; have qtg_ := h9.tg_; have qbr_ := h9.br_
                     have q := h9.code k a17 ha17; have q2 := made_dst q; rw [← q2] at q; first | (simp [q2] at hc19; done) | (simp at hc19; rw [q] at hc19; cases hc19)
                    refine sdY (.bool false) hX [(iiCo c false), (inCo od false), (inCo rd false)] i3_ ⟨iiC_b, inC_b, inC_b, ⟨⟩⟩ ⟨(by rw [hR]), rfl⟩
                   ·skip
                    refine sd_see 94 (.bool false) (see_bool kr hc19) (sd_run 7 (sd_see 76 (.int .i64 ((k + 1 : Nat) : Int)) (see_int (x := (IntKind.i64.wrap ((k : Int) + 1))) kr (w64 (by omega) (by omega) (by omega))) (sd_run 2 ?_)))
                    refine sd_inv R1_ kr (hR1_ _ (c.length - (k + 1)) _ e4_ (by omega) ⟨k + 1, rfl, (by omega), (fun j x hj hx => by rcases (by omega : j < k ∨ j = k) with q | rfl; exact i1_1 j x q hx; rw [ha17] at hx; cases hx; simp at hc18 hc19; have h3 : madeB nd nr a17 a17.2.1 = true := hc19; rw [hc18] at h3; exact h3), rfl⟩ ⟨sub_of kr kr ⟨iiC_b, inC_b, inC_b, brn, ⟨⟩⟩, te_of kr kr⟩ kr)
                 ·skip
                  have hke : k = c.length := by omega
                  refine sd_run 6 (sdF 74 ((k : Int) < (c.length : Int)) (by omega) kr (sd_run 46 ?_))
                  refine sd_loop 145 (cl (cl (cr (cr (cl (cl (cr (cr (cl (cl (cr (cl (cr (cr (cr (cr (cr f17b))))))))))))))))) [.blk 6, .blk 5, .next (cr (cr (cr (cl (cl (cr (cl (cr (cr (cr (cr (cr f17b)))))))))))), .loop (cl (cl (cr (cl (cr (cr (cr (cr (cr f17b))))))))), .blk 4, .next (cr (cr (cr (cr (cr (cr f17b))))))] kr kr kr (fun m9 s9 => ∃ (j : Nat), m9 = od.length - j ∧ (j ≤ od.length) ∧ (∀ (i : Nat) (x : Int), i < j → od[i]? = some x → valB x vs = true) ∧ s9 = ⟨tmL [(1, .pointer (some ⟨3, 0, none⟩)), (3, .int .i64 (c.length : Int)), (8, (s1 1 od.length)), (9, .int .i64 (j : Int)), (99, .slice (some ⟨4, 0, none⟩) 2 2), (100, .int .i64 2), (101, .int .i64 0)], hq [(iiCo c false), (inCo od false), (inCo rd false), some ⟨(pgL (s5 0 c.length) nd nr hd hr (s1 1 od.length) (s1 2 rd.length) fl nx tg br tk ct vs), 32, false⟩, some ⟨[(s1 1 od.length), (s1 2 rd.length)], 22, false⟩]⟩) (od.length - 0) _ e5_ hX ⟨0, rfl, (by omega), (fun j x hj => by omega), rfl⟩ ⟨sub_of kr kr ⟨iiC_b, inC_b, inC_b, brn, brn, ⟨⟩⟩, te_of kr kr⟩ kr ?_
                  rintro m9 s9 ⟨j, rfl, i2_0, i2_1, rfl⟩ R2_ hR2_
                  by_cases hlt_od : j < od.length
                  ·skip
                   obtain ⟨a20, ha20⟩ : ∃ x_, (od)[j]? = some x_ := ⟨_, List.getElem?_eq_getElem (by omega)⟩
                   refine sd_run 7 (sdT 108 ((j : Int) < (od.length : Int)) (by omega) kr (sd_run 11 (sd_ix 113 (.pointer (some ⟨1, 0 + j * 1, none⟩)) j od.length kr kr kr (by omega) (sd_ld 114 (.int .i64 a20) 3 (.pointer (some ⟨1, 0 + j * 1, none⟩)) kr kr kr (ld_cell (l := od) (e := 3) (ro := false) (k := j) (j := 0) inC_len kr kr kr ha20 rfl) (sd_run 2 ?_)))))
                   rcases Bool.eq_false_or_eq_true (decide ((a20 : Int) < 0)) with hc21 | hc21
                   ·skip
                    refine sd_see 116 (.bool true) (see_bool kr hc21) (sd_run 25 ?_)
                    have hR : rightB c od rd nd nr hd hr fl tg br ct vs = false := rightB_no fun h9 => by
                     have qvs_ := h9.vs_; have qlen := h9.len; have qnd_ := h9.nd_; have qnr_ := h9.nr_; have qhd_ := h9.hd_; have qhr_ := h9.hr_; have qct_ := h9.ct_; have qfl_ := h9.fl_; have qtg_ := h9.tg_; have qbr_ := h9.br_
                     have q := valB_iff.1 (h9.od_ j a20 ha20); simp at hc16 hc21; omega
                    refine sdY (.bool false) hX [(iiCo c false), (inCo od false), (inCo rd false)] i3_ ⟨iiC_b, inC_b, inC_b, ⟨⟩⟩ ⟨(by rw [hR]), rfl⟩
                   ·skip
                    refine sd_see 116 (.bool false) (see_bool kr hc21) (sd_run 2 (sd_ix 119 (.pointer (some ⟨1, 0 + j * 1, none⟩)) j od.length kr kr kr (by omega) (sd_ld 120 (.int .i64 a20) 3 (.pointer (some ⟨1, 0 + j * 1, none⟩)) kr kr kr (ld_cell (l := od) (e := 3) (ro := false) (k := j) (j := 0) inC_len kr kr kr ha20 rfl) (sd_run 5 ?_))))
                    rcases Bool.eq_false_or_eq_true (decide ((a20 : Int) ≥ (c.length : Int))) with hc22 | hc22
                    ·skip
                     refine sd_see 123 (.bool true) (see_bool kr hc22) (sd_run 16 ?_)
                     have hR : rightB c od rd nd nr hd hr fl tg br ct vs = false := rightB_no fun h9 => by
                      have qvs_ := h9.vs_; have qlen := h9.len; have qnd_ := h9.nd_; have qnr_ := h9.nr_; have qhd_ := h9.hd_; have qhr_ := h9.hr_; have qct_ := h9.ct_; have qfl_ := h9.fl_; have qtg_ := h9.tg_; have qbr_ := h9.br_
                      have q := valB_iff.1 (h9.od_ j a20 ha20); simp at hc21 hc22; omega
                     refine sdY (.bool false) hX [(iiCo c false), (inCo od false), (inCo rd false)] i3_ ⟨iiC_b, inC_b, inC_b, ⟨⟩⟩ ⟨(by rw [hR]), rfl⟩
                    ·skip
                     refine sd_see 123 (.bool false) (see_bool kr hc22) (sd_run 7 (sd_see 110 (.int .i64 ((j + 1 : Nat) : Int)) (see_int (x := (IntKind.i64.wrap ((j : Int) + 1))) kr (w64 (by omega) (by omega) (by omega))) (sd_run 2 ?_)))
                     refine sd_inv R2_ kr (hR2_ _ (od.length - (j + 1)) _ e5_ (by omega) ⟨j + 1, rfl, (by omega), (fun i x hj hx => by rcases (by omega : i < j ∨ i = j) with q | rfl; exact i2_1 i x q hx; rw [ha20] at hx; cases hx; refine valB_iff.2 ?_; simp at hc21 hc22; omega), rfl⟩ ⟨sub_of kr kr ⟨iiC_b, inC_b, inC_b, brn, brn, ⟨⟩⟩, te_of kr kr⟩ kr)
                  ·skip
                   have hje_od : j = od.length := by omega
                   refine sd_run 7 (sdF 108 ((j : Int) < (od.length : Int)) (by omega) kr (sd_run 39 ?_))
                   refine sd_loop 145 (cl (cl (cr (cr (cl (cl (cr (cr (cl (cl (cr (cl (cr (cr (cr (cr (cr f17b))))))))))))))))) [.blk 6, .blk 5, .next (cr (cr (cr (cl (cl (cr (cl (cr (cr (cr (cr (cr f17b)))))))))))), .loop (cl (cl (cr (cl (cr (cr (cr (cr (cr f17b))))))))), .blk 4, .next (cr (cr (cr (cr (cr (cr f17b))))))] kr kr kr (fun m9 s9 => ∃ (j : Nat), m9 = rd.length - j ∧ (j ≤ rd.length) ∧ (∀ (i : Nat) (x : Int), i < j → rd[i]? = some x → valB x vs = true) ∧ s9 = ⟨tmL [(1, .pointer (some ⟨3, 0, none⟩)), (3, .int .i64 (c.length : Int)), (8, (s1 2 rd.length)), (9, .int .i64 (j : Int)), (99, .slice (some ⟨4, 0, none⟩) 2 2), (100, .int .i64 2), (101, .int .i64 1)], hq [(iiCo c false), (inCo od false), (inCo rd false), some ⟨(pgL (s5 0 c.length) nd nr hd hr (s1 1 od.length) (s1 2 rd.length) fl nx tg br tk ct vs), 32, false⟩, some ⟨[(s1 1 od.length), (s1 2 rd.length)], 22, false⟩]⟩) (rd.length - 0) _ e5_ hX ⟨0, rfl, (by omega), (fun j x hj => by omega), rfl⟩ ⟨sub_of kr kr ⟨iiC_b, inC_b, inC_b, brn, brn, ⟨⟩⟩, te_of kr kr⟩ kr ?_
                   rintro m9 s9 ⟨j, rfl, i3_0, i3_1, rfl⟩ R3_ hR3_
                   by_cases hlt_rd : j < rd.length
                   ·skip
                    obtain ⟨a23, ha23⟩ : ∃ x_, (rd)[j]? = some x_ := ⟨_, List.getElem?_eq_getElem (by omega)⟩
                    refine sd_run 7 (sdT 108 ((j : Int) < (rd.length : Int)) (by omega) kr (sd_run 11 (sd_ix 113 (.pointer (some ⟨2, 0 + j * 1, none⟩)) j rd.length kr kr kr (by omega) (sd_ld 114 (.int .i64 a23) 3 (.pointer (some ⟨2, 0 + j * 1, none⟩)) kr kr kr (ld_cell (l := rd) (e := 3) (ro := false) (k := j) (j := 0) inC_len kr kr kr ha23 rfl) (sd_run 2 ?_)))))
                    rcases Bool.eq_false_or_eq_true (decide ((a23 : Int) < 0)) with hc24 | hc24
                    ·skip
                     refine sd_see 116 (.bool true) (see_bool kr hc24) (sd_run 25 ?_)
                     have hR : rightB c od rd nd nr hd hr fl tg br ct vs = false := rightB_no fun h9 => by
                      have qvs_ := h9.vs_; have qlen := h9.len; have qnd_ := h9.nd_; have qnr_ := h9.nr_; have qhd_ := h9.hd_; have qhr_ := h9.hr_; have qct_ := h9.ct_; have qfl_ := h9.fl_; have qtg_ := h9.tg_; have qbr_ := h9.br_
                      have q := valB_iff.1 (h9.rd_ j a23 ha23); simp at hc16 hc24; omega
                     refine sdY (.bool false) hX [(iiCo c false), (inCo od false), (inCo rd false)] i3_ ⟨iiC_b, inC_b, inC_b, ⟨⟩⟩ ⟨(by rw [hR]), rfl⟩
                    ·skip
                     refine sd_see 116 (.bool false) (see_bool kr hc24) (sd_run 2 (sd_ix 119 (.pointer (some ⟨2, 0 + j * 1, none⟩)) j rd.length kr kr kr (by omega) (sd_ld 120 (.int .i64 a23) 3 (.pointer (some ⟨2, 0 + j * 1, none⟩)) kr kr kr (ld_cell (l := rd) (e := 3) (ro := false) (k := j) (j := 0) inC_len kr kr kr ha23 rfl) (sd_run 5 ?_))))
                     rcases Bool.eq_false_or_eq_true (decide ((a23 : Int) ≥ (c.length : Int))) with hc25 | hc25
                     ·skip
                      refine sd_see 123 (.bool true) (see_bool kr hc25) (sd_run 16 ?_)
                      have hR : rightB c od rd nd nr hd hr fl tg br ct vs = false := rightB_no fun h9 => by
                       have qvs_ := h9.vs_; have qlen := h9.len; have qnd_ := h9.nd_; have qnr_ := h9.nr_; have qhd_ := h9.hd_; have qhr_ := h9.hr_; have qct_ := h9.ct_; have qfl_ := h9.fl_; have qtg_ := h9.tg_; have qbr_ := h9.br_
                       have q := valB_iff.1 (h9.rd_ j a23 ha23); simp at hc24 hc25; omega
                      refine sdY (.bool false) hX [(iiCo c false), (inCo od false), (inCo rd false)] i3_ ⟨iiC_b, inC_b, inC_b, ⟨⟩⟩ ⟨(by rw [hR]), rfl⟩
                     ·skip
                      refine sd_see 123 (.bool false) (see_bool kr hc25) (sd_run 7 (sd_see 110 (.int .i64 ((j + 1 : Nat) : Int)) (see_int (x := (IntKind.i64.wrap ((j : Int) + 1))) kr (w64 (by omega) (by omega) (by omega))) (sd_run 2 ?_)))
                      refine sd_inv R3_ kr (hR3_ _ (rd.length - (j + 1)) _ e5_ (by omega) ⟨j + 1, rfl, (by omega), (fun i x hj hx => by rcases (by omega : i < j ∨ i = j) with q | rfl; exact i3_1 i x q hx; rw [ha23] at hx; cases hx; refine valB_iff.2 ?_; simp at hc24 hc25; omega), rfl⟩ ⟨sub_of kr kr ⟨iiC_b, inC_b, inC_b, brn, brn, ⟨⟩⟩, te_of kr kr⟩ kr)
                   ·skip
                    have hje_rd : j = rd.length := by omega
                    refine sd_run 7 (sdF 108 ((j : Int) < (rd.length : Int)) (by omega) kr (sd_run 33 ?_))
                    rcases Bool.eq_false_or_eq_true (decide ((fl : Int) ≥ (-1))) with hc26 | hc26
                    ·skip
                     refine sd_see 128 (.bool true) (see_bool kr hc26) (sd_run 6 ?_)
                     rcases Bool.eq_false_or_eq_true (decide ((fl : Int) < (c.length : Int))) with hc27 | hc27
                     ·skip
                      refine sd_see 134 (.bool true) (see_bool kr hc27) (sd_run 5 ?_)
                      rcases Bool.eq_false_or_eq_true (decide ((tg : Int) ≥ (-1))) with hc28 | hc28
                      ·skip
                       refine sd_see 139 (.bool true) (see_bool kr hc28) (sd_run 9 ?_)
                       rcases Bool.eq_false_or_eq_true (decide ((tg : Int) < (c.length : Int))) with hc29 | hc29
                       ·skip
                        refine sd_see 2 (.bool true) (see_bool kr hc29) ?_
                        have hR : rightB c od rd nd nr hd hr fl tg br ct vs = true := by
                         have phc1 := hc1; have phc2 := hc2; have phc3 := hc3; have phc4 := hc4; have phc5 := hc5; have phc6 := hc6; have phc7 := hc7; have phc8 := hc8; have phc9 := hc9; have phc10 := hc10; have phc11 := hc11; have phc12 := hc12; have phc13 := hc13; have phc14 := hc14; have phc15 := hc15; have phc16 := hc16; have phc26 := hc26; have phc27 := hc27; have phc28 := hc28; have phc29 := hc29; (try simp at phc1 phc2 phc3 phc4 phc5 phc6 phc7 phc8 phc9 phc10 phc11 phc12 phc13 phc14 phc15 phc16 phc26 phc27 phc28 phc29)
                         exact rightB_yes ⟨by omega, by omega, by omega, by omega, by omega, by omega, by omega, fun q x h => i1_1 q x (by have := (List.getElem?_eq_some_iff.1 h).1; omega) h, fun q x h => i2_1 q x (by have := (List.getElem?_eq_some_iff.1 h).1; omega) h, fun q x h => i3_1 q x (by have := (List.getElem?_eq_some_iff.1 h).1; omega) h, by by_cases h : fl = -1; exact .inl h; exact .inr (valB_iff.2 (by omega)), by by_cases h : tg = -1; exact .inl h; exact .inr (valB_iff.2 (by omega)), by omega⟩
                        refine sdY (.bool true) hX [(iiCo c false), (inCo od false), (inCo rd false)] i3_ ⟨iiC_b, inC_b, inC_b, ⟨⟩⟩ ⟨(by rw [hR]), rfl⟩
                       ·skip
                        refine sd_see 2 (.bool false) (see_bool kr hc29) ?_
                        have hR : rightB c od rd nd nr hd hr fl tg br ct vs = false := rightB_no fun h9 => by
                         have qvs_ := h9.vs_; have qlen := h9.len; have qnd_ := h9.nd_; have qnr_ := h9.nr_; have qhd_ := h9.hd_; have qhr_ := h9.hr_; have qct_ := h9.ct_; have qfl_ := h9.fl_; have qtg_ := h9.tg_; have qbr_ := h9.br_
                         have qfl2 : fl = -1 ∨ (0 ≤ fl ∧ fl < vs) := h9.fl_.imp id valB_iff.1; have qtg2 : tg = -1 ∨ (0 ≤ tg ∧ tg < vs) := h9.tg_.imp id valB_iff.1; (try simp at hc1 hc2 hc3 hc4 hc5 hc6 hc7 hc8 hc9 hc10 hc11 hc12 hc13 hc14 hc15 hc16 hc26 hc27 hc28 hc29); omega
                        refine sdY (.bool false) hX [(iiCo c false), (inCo od false), (inCo rd false)] i3_ ⟨iiC_b, inC_b, inC_b, ⟨⟩⟩ ⟨(by rw [hR]), rfl⟩
                      ·skip
                       refine sd_see 139 (.bool false) (see_bool kr hc28) (sd_run 9 ?_)
                       have hR : rightB c od rd nd nr hd hr fl tg br ct vs = false := rightB_no fun h9 => by
                        have qvs_ := h9.vs_; have qlen := h9.len; have qnd_ := h9.nd_; have qnr_ := h9.nr_; have qhd_ := h9.hd_; have qhr_ := h9.hr_; have qct_ := h9.ct_; have qfl_ := h9.fl_; have qtg_ := h9.tg_; have qbr_ := h9.br_
                        have qfl2 : fl = -1 ∨ (0 ≤ fl ∧ fl < vs) := h9.fl_.imp id valB_iff.1; have qtg2 : tg = -1 ∨ (0 ≤ tg ∧ tg < vs) := h9.tg_.imp id valB_iff.1; (try simp at hc1 hc2 hc3 hc4 hc5 hc6 hc7 hc8 hc9 hc10 hc11 hc12 hc13 hc14 hc15 hc16 hc26 hc27 hc28); omega
                       refine sdY (.bool false) hX [(iiCo c false), (inCo od false), (inCo rd false)] i3_ ⟨iiC_b, inC_b, inC_b, ⟨⟩⟩ ⟨(by rw [hR]), rfl⟩
                     ·skip
                      refine sd_see 134 (.bool false) (see_bool kr hc27) (sd_run 14 ?_)
                      have hR : rightB c od rd nd nr hd hr fl tg br ct vs = false := rightB_no fun h9 => by
                       have qvs_ := h9.vs_; have qlen := h9.len; have qnd_ := h9.nd_; have qnr_ := h9.nr_; have qhd_ := h9.hd_; have qhr_ := h9.hr_; have qct_ := h9.ct_; have qfl_ := h9.fl_; have qtg_ := h9.tg_; have qbr_ := h9.br_
                       have qfl2 : fl = -1 ∨ (0 ≤ fl ∧ fl < vs) := h9.fl_.imp id valB_iff.1; have qtg2 : tg = -1 ∨ (0 ≤ tg ∧ tg < vs) := h9.tg_.imp id valB_iff.1; (try simp at hc1 hc2 hc3 hc4 hc5 hc6 hc7 hc8 hc9 hc10 hc11 hc12 hc13 hc14 hc15 hc16 hc26 hc27); omega
                      refine sdY (.bool false) hX [(iiCo c false), (inCo od false), (inCo rd false)] i3_ ⟨iiC_b, inC_b, inC_b, ⟨⟩⟩ ⟨(by rw [hR]), rfl⟩
                    ·skip
                     refine sd_see 128 (.bool false) (see_bool kr hc26) (sd_run 20 ?_)
                     have hR : rightB c od rd nd nr hd hr fl tg br ct vs = false := rightB_no fun h9 => by
                      have qvs_ := h9.vs_; have qlen := h9.len; have qnd_ := h9.nd_; have qnr_ := h9.nr_; have qhd_ := h9.hd_; have qhr_ := h9.hr_; have qct_ := h9.ct_; have qfl_ := h9.fl_; have qtg_ := h9.tg_; have qbr_ := h9.br_
                      have qfl2 : fl = -1 ∨ (0 ≤ fl ∧ fl < vs) := h9.fl_.imp id valB_iff.1; have qtg2 : tg = -1 ∨ (0 ≤ tg ∧ tg < vs) := h9.tg_.imp id valB_iff.1; (try simp at hc1 hc2 hc3 hc4 hc5 hc6 hc7 hc8 hc9 hc10 hc11 hc12 hc13 hc14 hc15 hc16 hc26); omega
                     refine sdY (.bool false) hX [(iiCo c false), (inCo od false), (inCo rd false)] i3_ ⟨iiC_b, inC_b, inC_b, ⟨⟩⟩ ⟨(by rw [hR]), rfl⟩
     ·skip
      refine sd_see 35 (.bool false) (see_bool kr hc5) (sd_run 61 ?_)
      rcases Bool.eq_false_or_eq_true (decide ((nd : Int) < 0)) with hc30 | hc30
      ·skip
       refine sd_see 67 (.bool true) (see_bool kr hc30) (sd_run 17 ?_)
       have hR : rightB c od rd nd nr hd hr fl tg br ct vs = false := rightB_no fun h9 => by
        have qvs_ := h9.vs_; have qlen := h9.len; have qnd_ := h9.nd_; have qnr_ := h9.nr_; have qhd_ := h9.hd_; have qhr_ := h9.hr_; have qct_ := h9.ct_; have qfl_ := h9.fl_; have qtg_ := h9.tg_; have qbr_ := h9.br_
        have qfl2 : fl = -1 ∨ (0 ≤ fl ∧ fl < vs) := h9.fl_.imp id valB_iff.1; have qtg2 : tg = -1 ∨ (0 ≤ tg ∧ tg < vs) := h9.tg_.imp id valB_iff.1; (try simp at hc1 hc2 hc3 hc4 hc5 hc30); omega
       refine sdY (.bool false) hX [(iiCo c false), (inCo od false), (inCo rd false)] i3_ ⟨iiC_b, inC_b, inC_b, ⟨⟩⟩ ⟨(by rw [hR]), rfl⟩
      ·skip
       refine sd_see 67 (.bool false) (see_bool kr hc30) (sd_run 5 ?_)
       rcases Bool.eq_false_or_eq_true (decide ((nd : Int) > 16)) with hc31 | hc31
       ·skip
        refine sd_see 70 (.bool true) (see_bool kr hc31) (sd_run 12 ?_)
        have hR : rightB c od rd nd nr hd hr fl tg br ct vs = false := rightB_no fun h9 => by
         have qvs_ := h9.vs_; have qlen := h9.len; have qnd_ := h9.nd_; have qnr_ := h9.nr_; have qhd_ := h9.hd_; have qhr_ := h9.hr_; have qct_ := h9.ct_; have qfl_ := h9.fl_; have qtg_ := h9.tg_; have qbr_ := h9.br_
         have qfl2 : fl = -1 ∨ (0 ≤ fl ∧ fl < vs) := h9.fl_.imp id valB_iff.1; have qtg2 : tg = -1 ∨ (0 ≤ tg ∧ tg < vs) := h9.tg_.imp id valB_iff.1; (try simp at hc1 hc2 hc3 hc4 hc5 hc30 hc31); omega
        refine sdY (.bool false) hX [(iiCo c false), (inCo od false), (inCo rd false)] i3_ ⟨iiC_b, inC_b, inC_b, ⟨⟩⟩ ⟨(by rw [hR]), rfl⟩
       ·skip
        refine sd_see 70 (.bool false) (see_bool kr hc31) (sd_run 33 ?_)
        rcases Bool.eq_false_or_eq_true (decide ((nr : Int) < 0)) with hc32 | hc32
        ·skip
         refine sd_see 67 (.bool true) (see_bool kr hc32) (sd_run 17 ?_)
         have hR : rightB c od rd nd nr hd hr fl tg br ct vs = false := rightB_no fun h9 => by
          have qvs_ := h9.vs_; have qlen := h9.len; have qnd_ := h9.nd_; have qnr_ := h9.nr_; have qhd_ := h9.hd_; have qhr_ := h9.hr_; have qct_ := h9.ct_; have qfl_ := h9.fl_; have qtg_ := h9.tg_; have qbr_ := h9.br_
          have qfl2 : fl = -1 ∨ (0 ≤ fl ∧ fl < vs) := h9.fl_.imp id valB_iff.1; have qtg2 : tg = -1 ∨ (0 ≤ tg ∧ tg < vs) := h9.tg_.imp id valB_iff.1; (try simp at hc1 hc2 hc3 hc4 hc5 hc30 hc31 hc32); omega
         refine sdY (.bool false) hX [(iiCo c false), (inCo od false), (inCo rd false)] i3_ ⟨iiC_b, inC_b, inC_b, ⟨⟩⟩ ⟨(by rw [hR]), rfl⟩
        ·skip
         refine sd_see 67 (.bool false) (see_bool kr hc32) (sd_run 5 ?_)
         rcases Bool.eq_false_or_eq_true (decide ((nr : Int) > 16)) with hc33 | hc33
         ·skip
          refine sd_see 70 (.bool true) (see_bool kr hc33) (sd_run 12 ?_)
          have hR : rightB c od rd nd nr hd hr fl tg br ct vs = false := rightB_no fun h9 => by
           have qvs_ := h9.vs_; have qlen := h9.len; have qnd_ := h9.nd_; have qnr_ := h9.nr_; have qhd_ := h9.hd_; have qhr_ := h9.hr_; have qct_ := h9.ct_; have qfl_ := h9.fl_; have qtg_ := h9.tg_; have qbr_ := h9.br_
           have qfl2 : fl = -1 ∨ (0 ≤ fl ∧ fl < vs) := h9.fl_.imp id valB_iff.1; have qtg2 : tg = -1 ∨ (0 ≤ tg ∧ tg < vs) := h9.tg_.imp id valB_iff.1; (try simp at hc1 hc2 hc3 hc4 hc5 hc30 hc31 hc32 hc33); omega
          refine sdY (.bool false) hX [(iiCo c false), (inCo od false), (inCo rd false)] i3_ ⟨iiC_b, inC_b, inC_b, ⟨⟩⟩ ⟨(by rw [hR]), rfl⟩
         ·skip
          refine sd_see 70 (.bool false) (see_bool kr hc33) (sd_run 33 ?_)
          rcases Bool.eq_false_or_eq_true (decide ((hd : Int) < 0)) with hc34 | hc34
          ·skip
           refine sd_see 67 (.bool true) (see_bool kr hc34) (sd_run 17 ?_)
           have hR : rightB c od rd nd nr hd hr fl tg br ct vs = false := rightB_no fun h9 => by
            have qvs_ := h9.vs_; have qlen := h9.len; have qnd_ := h9.nd_; have qnr_ := h9.nr_; have qhd_ := h9.hd_; have qhr_ := h9.hr_; have qct_ := h9.ct_; have qfl_ := h9.fl_; have qtg_ := h9.tg_; have qbr_ := h9.br_
            have qfl2 : fl = -1 ∨ (0 ≤ fl ∧ fl < vs) := h9.fl_.imp id valB_iff.1; have qtg2 : tg = -1 ∨ (0 ≤ tg ∧ tg < vs) := h9.tg_.imp id valB_iff.1; (try simp at hc1 hc2 hc3 hc4 hc5 hc30 hc31 hc32 hc33 hc34); omega
           refine sdY (.bool false) hX [(iiCo c false), (inCo od false), (inCo rd false)] i3_ ⟨iiC_b, inC_b, inC_b, ⟨⟩⟩ ⟨(by rw [hR]), rfl⟩
          ·skip
           refine sd_see 67 (.bool false) (see_bool kr hc34) (sd_run 5 ?_)
           rcases Bool.eq_false_or_eq_true (decide ((hd : Int) > 16)) with hc35 | hc35
           ·skip
            refine sd_see 70 (.bool true) (see_bool kr hc35) (sd_run 12 ?_)
            have hR : rightB c od rd nd nr hd hr fl tg br ct vs = false := rightB_no fun h9 => by
             have qvs_ := h9.vs_; have qlen := h9.len; have qnd_ := h9.nd_; have qnr_ := h9.nr_; have qhd_ := h9.hd_; have qhr_ := h9.hr_; have qct_ := h9.ct_; have qfl_ := h9.fl_; have qtg_ := h9.tg_; have qbr_ := h9.br_
             have qfl2 : fl = -1 ∨ (0 ≤ fl ∧ fl < vs) := h9.fl_.imp id valB_iff.1; have qtg2 : tg = -1 ∨ (0 ≤ tg ∧ tg < vs) := h9.tg_.imp id valB_iff.1; (try simp at hc1 hc2 hc3 hc4 hc5 hc30 hc31 hc32 hc33 hc34 hc35); omega
            refine sdY (.bool false) hX [(iiCo c false), (inCo od false), (inCo rd false)] i3_ ⟨iiC_b, inC_b, inC_b, ⟨⟩⟩ ⟨(by rw [hR]), rfl⟩
           ·skip
            refine sd_see 70 (.bool false) (see_bool kr hc35) (sd_run 33 ?_)
            rcases Bool.eq_false_or_eq_true (decide ((hr : Int) < 0)) with hc36 | hc36
            ·skip
             refine sd_see 67 (.bool true) (see_bool kr hc36) (sd_run 17 ?_)
             have hR : rightB c od rd nd nr hd hr fl tg br ct vs = false := rightB_no fun h9 => by
              have qvs_ := h9.vs_; have qlen := h9.len; have qnd_ := h9.nd_; have qnr_ := h9.nr_; have qhd_ := h9.hd_; have qhr_ := h9.hr_; have qct_ := h9.ct_; have qfl_ := h9.fl_; have qtg_ := h9.tg_; have qbr_ := h9.br_
              have qfl2 : fl = -1 ∨ (0 ≤ fl ∧ fl < vs) := h9.fl_.imp id valB_iff.1; have qtg2 : tg = -1 ∨ (0 ≤ tg ∧ tg < vs) := h9.tg_.imp id valB_iff.1; (try simp at hc1 hc2 hc3 hc4 hc5 hc30 hc31 hc32 hc33 hc34 hc35 hc36); omega
             refine sdY (.bool false) hX [(iiCo c false), (inCo od false), (inCo rd false)] i3_ ⟨iiC_b, inC_b, inC_b, ⟨⟩⟩ ⟨(by rw [hR]), rfl⟩
            ·skip
             refine sd_see 67 (.bool false) (see_bool kr hc36) (sd_run 5 ?_)
             rcases Bool.eq_false_or_eq_true (decide ((hr : Int) > 16)) with hc37 | hc37
             ·skip
              refine sd_see 70 (.bool true) (see_bool kr hc37) (sd_run 12 ?_)
              have hR : rightB c od rd nd nr hd hr fl tg br ct vs = false := rightB_no fun h9 => by
               have qvs_ := h9.vs_; have qlen := h9.len; have qnd_ := h9.nd_; have qnr_ := h9.nr_; have qhd_ := h9.hd_; have qhr_ := h9.hr_; have qct_ := h9.ct_; have qfl_ := h9.fl_; have qtg_ := h9.tg_; have qbr_ := h9.br_
               have qfl2 : fl = -1 ∨ (0 ≤ fl ∧ fl < vs) := h9.fl_.imp id valB_iff.1; have qtg2 : tg = -1 ∨ (0 ≤ tg ∧ tg < vs) := h9.tg_.imp id valB_iff.1; (try simp at hc1 hc2 hc3 hc4 hc5 hc30 hc31 hc32 hc33 hc34 hc35 hc36 hc37); omega
              refine sdY (.bool false) hX [(iiCo c false), (inCo od false), (inCo rd false)] i3_ ⟨iiC_b, inC_b, inC_b, ⟨⟩⟩ ⟨(by rw [hR]), rfl⟩
             ·skip
              refine sd_see 70 (.bool false) (see_bool kr hc37) (sd_run 29 ?_)
              have phc1 := hc1
              (try simp at phc1)
              have phc2 := hc2
              (try simp at phc2)
              have phc3 := hc3
              (try simp at phc3)
              have phc4 := hc4
              (try simp at phc4)
              have phc5 := hc5
              (try simp at phc5)
              have phc30 := hc30
              (try simp at phc30)
              have phc31 := hc31
              (try simp at phc31)
              have phc32 := hc32
              (try simp at phc32)
              have phc33 := hc33
              (try simp at phc33)
              have phc34 := hc34
              (try simp at phc34)
              have phc35 := hc35
              (try simp at phc35)
              have phc36 := hc36
              (try simp at phc36)
              have phc37 := hc37
              (try simp at phc37)
              refine sd_loop 145 (cl (cl (cr (cl (cr (cr (cr (cr f17b)))))))) [.blk 2, .next (cr (cr (cr (cr (cr f17b)))))] kr kr kr (fun m9 s9 => ∃ (k : Nat), m9 = c.length - k ∧ (k ≤ c.length) ∧ (∀ (j : Nat) (x : II), j < k → c[j]? = some x → madeB nd nr x (j : Int) = true) ∧ s9 = ⟨tmL [(1, .pointer (some ⟨3, 0, none⟩)), (3, .int .i64 (c.length : Int)), (6, .int .i64 (k : Int))], hq [(iiCo c false), (inCo od false), (inCo rd false), some ⟨(pgL (s5 0 c.length) nd nr hd hr (s1 1 od.length) (s1 2 rd.length) fl nx tg br tk ct vs), 32, false⟩]⟩) (c.length - 0) _ e4_ hX ⟨0, rfl, (by omega), (fun j x hj => by omega), rfl⟩ ⟨sub_of kr kr ⟨iiC_b, inC_b, inC_b, brn, ⟨⟩⟩, te_of kr kr⟩ kr ?_
              rintro m9 s9 ⟨k, rfl, i4_0, i4_1, rfl⟩ R4_ hR4_
              by_cases hlt : k < c.length
              ·skip
               obtain ⟨a38, ha38⟩ : ∃ x_, (c)[k]? = some x_ := ⟨_, List.getElem?_eq_getElem (by omega)⟩
               have ia38 := hi _ (List.mem_of_getElem? ha38)
               refine sd_run 6 (sdT 74 ((k : Int) < (c.length : Int)) (by omega) kr (sd_run 12 (sd_ix 80 (.pointer (some ⟨0, 0 + k * 5, none⟩)) k c.length kr kr kr (by omega) (sd_run 1 (sd_ld 82 (.int .i64 a38.2.1) 3 (.pointer (some ⟨0, 0 + k * 5 + 1, none⟩)) kr kr kr (ld_cell (l := c) (e := 41) (ro := false) (k := k) (j := 1) iiC_len kr kr kr ha38 rfl) (sd_run 3 ?_))))))
               rcases Bool.eq_false_or_eq_true ((a38.2.1 : Int) != (k : Int)) with hc39 | hc39
               ·skip
                refine sd_see 85 (.bool true) (see_bool kr hc39) (sd_run 23 ?_)
                have hR : rightB c od rd nd nr hd hr fl tg br ct vs = false := rightB_no fun h9 => by
                 have qvs_ := h9.vs_; have qlen := h9.len; have qnd_ := h9.nd_; have qnr_ := h9.nr_; have qhd_ := h9.hd_; have qhr_ := h9.hr_; have qct_ := h9.ct_; have qfl_ := h9.fl_; have qtg_ := h9.tg_; have qbr_ := h9.br_
                 have q := h9.code k a38 ha38; have q2 := made_dst q; rw [← q2] at q; first | (simp [q2] at hc39; done) | (simp at hc39; rw [q] at hc39; cases hc39)
                refine sdY (.bool false) hX [(iiCo c false), (inCo od false), (inCo rd false)] i3_ ⟨iiC_b, inC_b, inC_b, ⟨⟩⟩ ⟨(by rw [hR]), rfl⟩
               ·skip
                refine sd_see 85 (.bool false) (see_bool kr hc39) (sd_run 4 (sd_ix 90 (.pointer (some ⟨0, 0 + k * 5, none⟩)) k c.length kr kr kr (by omega) (sd_ld 91 (c5A a38.1 a38.2.1 a38.2.2.1 a38.2.2.2.1 a38.2.2.2.2) 41 (.pointer (some ⟨0, 0 + k * 5, none⟩)) kr kr kr (ld_row (l := c) (e := 41) (ro := false) (k := k) iiC_len kr kr kr ha38) (sdCp 92 36 #[(pgV (s5 0 c.length) nd nr hd hr (s1 1 od.length) (s1 2 rd.length) fl nx tg br tk ct vs), (c5A a38.1 a38.2.1 a38.2.2.1 a38.2.2.2.1 a38.2.2.2.2)] (@rr1_any c od rd nd nr hd hr fl nx tg br tk ct vs a38.1 a38.2.1 a38.2.2.1 a38.2.2.2.1 a38.2.2.2.2 ia38 (by omega) (by omega)) i3_ ⟨iiC_b, inC_b, inC_b, ⟨⟩⟩ ?_))))
                rintro v9 k9 ⟨rfl, rfl⟩
                refine ⟨rfl, .bool (madeB nd nr (a38.1, a38.2.1, a38.2.2.1, a38.2.2.2.1, a38.2.2.2.2) a38.2.1), kr, ?_⟩
                refine sd_run 4 ?_
                rcases Bool.eq_false_or_eq_true (!(madeB nd nr (a38.1, a38.2.1, a38.2.2.1, a38.2.2.2.1, a38.2.2.2.2) a38.2.1)) with hc40 | hc40
                ·skip
                 refine sd_see 94 (.bool true) (see_bool kr hc40) (sd_run 12 ?_)
                 have hR : rightB c od rd nd nr hd hr fl tg br ct vs = false := rightB_no fun h9 => by
                  have qvs_ := h9.vs_; have qlen := h9.len; have qnd_ := h9.nd_; have qnr_ := h9.nr_; have qhd_ := h9.hd_; have qhr_ := h9.hr_; have qct_ := h9.ct_; have qfl_ := h9.fl_; have qtg_ := h9.tg_; have qbr_ := h9.br_
                  have q := h9.code k a38 ha38; have q2 := made_dst q; rw [← q2] at q; first | (simp [q2] at hc40; done) | (simp at hc40; rw [q] at hc40; cases hc40)
                 refine sdY (.bool false) hX [(iiCo c false), (inCo od false), (inCo rd false)] i3_ ⟨iiC_b, inC_b, inC_b, ⟨⟩⟩ ⟨(by rw [hR]), rfl⟩
                ·skip
                 refine sd_see 94 (.bool false) (see_bool kr hc40) (sd_run 7 (sd_see 76 (.int .i64 ((k + 1 : Nat) : Int)) (see_int (x := (IntKind.i64.wrap ((k : Int) + 1))) kr (w64 (by omega) (by omega) (by omega))) (sd_run 2 ?_)))
                 refine sd_inv R4_ kr (hR4_ _ (c.length - (k + 1)) _ e4_ (by omega) ⟨k + 1, rfl, (by omega), (fun j x hj hx => by rcases (by omega : j < k ∨ j = k) with q | rfl; exact i4_1 j x q hx; rw [ha38] at hx; cases hx; simp at hc39 hc40; have h3 : madeB nd nr a38 a38.2.1 = true := hc40; rw [hc39] at h3; exact h3), rfl⟩ ⟨sub_of kr kr ⟨iiC_b, inC_b, inC_b, brn, ⟨⟩⟩, te_of kr kr⟩ kr)
              ·skip
               have hke : k = c.length := by omega
               refine sd_run 6 (sdF 74 ((k : Int) < (c.length : Int)) (by omega) kr (sd_run 46 ?_))
               refine sd_loop 145 (cl (cl (cr (cr (cl (cl (cr (cr (cl (cl (cr (cl (cr (cr (cr (cr (cr f17b))))))))))))))))) [.blk 6, .blk 5, .next (cr (cr (cr (cl (cl (cr (cl (cr (cr (cr (cr (cr f17b)))))))))))), .loop (cl (cl (cr (cl (cr (cr (cr (cr (cr f17b))))))))), .blk 4, .next (cr (cr (cr (cr (cr (cr f17b))))))] kr kr kr (fun m9 s9 => ∃ (j : Nat), m9 = od.length - j ∧ (j ≤ od.length) ∧ (∀ (i : Nat) (x : Int), i < j → od[i]? = some x → valB x vs = true) ∧ s9 = ⟨tmL [(1, .pointer (some ⟨3, 0, none⟩)), (3, .int .i64 (c.length : Int)), (8, (s1 1 od.length)), (9, .int .i64 (j : Int)), (99, .slice (some ⟨4, 0, none⟩) 2 2), (100, .int .i64 2), (101, .int .i64 0)], hq [(iiCo c false), (inCo od false), (inCo rd false), some ⟨(pgL (s5 0 c.length) nd nr hd hr (s1 1 od.length) (s1 2 rd.length) fl nx tg br tk ct vs), 32, false⟩, some ⟨[(s1 1 od.length), (s1 2 rd.length)], 22, false⟩]⟩) (od.length - 0) _ e5_ hX ⟨0, rfl, (by omega), (fun j x hj => by omega), rfl⟩ ⟨sub_of kr kr ⟨iiC_b, inC_b, inC_b, brn, brn, ⟨⟩⟩, te_of kr kr⟩ kr ?_
               rintro m9 s9 ⟨j, rfl, i5_0, i5_1, rfl⟩ R5_ hR5_
               by_cases hlt_od : j < od.length
               ·skip
                obtain ⟨a41, ha41⟩ : ∃ x_, (od)[j]? = some x_ := ⟨_, List.getElem?_eq_getElem (by omega)⟩
                refine sd_run 7 (sdT 108 ((j : Int) < (od.length : Int)) (by omega) kr (sd_run 11 (sd_ix 113 (.pointer (some ⟨1, 0 + j * 1, none⟩)) j od.length kr kr kr (by omega) (sd_ld 114 (.int .i64 a41) 3 (.pointer (some ⟨1, 0 + j * 1, none⟩)) kr kr kr (ld_cell (l := od) (e := 3) (ro := false) (k := j) (j := 0) inC_len kr kr kr ha41 rfl) (sd_run 2 ?_)))))
                rcases Bool.eq_false_or_eq_true (decide ((a41 : Int) < 0)) with hc42 | hc42
                ·skip
                 refine sd_see 116 (.bool true) (see_bool kr hc42) (sd_run 25 ?_)
                 have hR : rightB c od rd nd nr hd hr fl tg br ct vs = false := rightB_no fun h9 => by
                  have qvs_ := h9.vs_; have qlen := h9.len; have qnd_ := h9.nd_; have qnr_ := h9.nr_; have qhd_ := h9.hd_; have qhr_ := h9.hr_; have qct_ := h9.ct_; have qfl_ := h9.fl_; have qtg_ := h9.tg_; have qbr_ := h9.br_
                  have q := valB_iff.1 (h9.od_ j a41 ha41); simp at hc37 hc42; omega
                 refine sdY (.bool false) hX [(iiCo c false), (inCo od false), (inCo rd false)] i3_ ⟨iiC_b, inC_b, inC_b, ⟨⟩⟩ ⟨(by rw [hR]), rfl⟩
                ·skip
                 refine sd_see 116 (.bool false) (see_bool kr hc42) (sd_run 2 (sd_ix 119 (.pointer (some ⟨1, 0 + j * 1, none⟩)) j od.length kr kr kr (by omega) (sd_ld 120 (.int .i64 a41) 3 (.pointer (some ⟨1, 0 + j * 1, none⟩)) kr kr kr (ld_cell (l := od) (e := 3) (ro := false) (k := j) (j := 0) inC_len kr kr kr ha41 rfl) (sd_run 5 ?_))))
                 rcases Bool.eq_false_or_eq_true (decide ((a41 : Int) ≥ (c.length : Int))) with hc43 | hc43
                 ·skip
                  refine sd_see 123 (.bool true) (see_bool kr hc43) (sd_run 16 ?_)
                  have hR : rightB c od rd nd nr hd hr fl tg br ct vs = false := rightB_no fun h9 => by
                   have qvs_ := h9.vs_; have qlen := h9.len; have qnd_ := h9.nd_; have qnr_ := h9.nr_; have qhd_ := h9.hd_; have qhr_ := h9.hr_; have qct_ := h9.ct_; have qfl_ := h9.fl_; have qtg_ := h9.tg_; have qbr_ := h9.br_
                   have q := valB_iff.1 (h9.od_ j a41 ha41); simp at hc42 hc43; omega
                  refine sdY (.bool false) hX [(iiCo c false), (inCo od false), (inCo rd false)] i3_ ⟨iiC_b, inC_b, inC_b, ⟨⟩⟩ ⟨(by rw [hR]), rfl⟩
                 ·skip
                  refine sd_see 123 (.bool false) (see_bool kr hc43) (sd_run 7 (sd_see 110 (.int .i64 ((j + 1 : Nat) : Int)) (see_int (x := (IntKind.i64.wrap ((j : Int) + 1))) kr (w64 (by omega) (by omega) (by omega))) (sd_run 2 ?_)))
                  refine sd_inv R5_ kr (hR5_ _ (od.length - (j + 1)) _ e5_ (by omega) ⟨j + 1, rfl, (by omega), (fun i x hj hx => by rcases (by omega : i < j ∨ i = j) with q | rfl; exact i5_1 i x q hx; rw [ha41] at hx; cases hx; refine valB_iff.2 ?_; simp at hc42 hc43; omega), rfl⟩ ⟨sub_of kr kr ⟨iiC_b, inC_b, inC_b, brn, brn, ⟨⟩⟩, te_of kr kr⟩ kr)
               ·skip
                have hje_od : j = od.length := by omega
                refine sd_run 7 (sdF 108 ((j : Int) < (od.length : Int)) (by omega) kr (sd_run 39 ?_))
                refine sd_loop 145 (cl (cl (cr (cr (cl (cl (cr (cr (cl (cl (cr (cl (cr (cr (cr (cr (cr f17b))))))))))))))))) [.blk 6, .blk 5, .next (cr (cr (cr (cl (cl (cr (cl (cr (cr (cr (cr (cr f17b)))))))))))), .loop (cl (cl (cr (cl (cr (cr (cr (cr (cr f17b))))))))), .blk 4, .next (cr (cr (cr (cr (cr (cr f17b))))))] kr kr kr (fun m9 s9 => ∃ (j : Nat), m9 = rd.length - j ∧ (j ≤ rd.length) ∧ (∀ (i : Nat) (x : Int), i < j → rd[i]? = some x → valB x vs = true) ∧ s9 = ⟨tmL [(1, .pointer (some ⟨3, 0, none⟩)), (3, .int .i64 (c.length : Int)), (8, (s1 2 rd.length)), (9, .int .i64 (j : Int)), (99, .slice (some ⟨4, 0, none⟩) 2 2), (100, .int .i64 2), (101, .int .i64 1)], hq [(iiCo c false), (inCo od false), (inCo rd false), some ⟨(pgL (s5 0 c.length) nd nr hd hr (s1 1 od.length) (s1 2 rd.length) fl nx tg br tk ct vs), 32, false⟩, some ⟨[(s1 1 od.length), (s1 2 rd.length)], 22, false⟩]⟩) (rd.length - 0) _ e5_ hX ⟨0, rfl, (by omega), (fun j x hj => by omega), rfl⟩ ⟨sub_of kr kr ⟨iiC_b, inC_b, inC_b, brn, brn, ⟨⟩⟩, te_of kr kr⟩ kr ?_
                rintro m9 s9 ⟨j, rfl, i6_0, i6_1, rfl⟩ R6_ hR6_
                by_cases hlt_rd : j < rd.length
                ·skip
                 obtain ⟨a44, ha44⟩ : ∃ x_, (rd)[j]? = some x_ := ⟨_, List.getElem?_eq_getElem (by omega)⟩
                 refine sd_run 7 (sdT 108 ((j : Int) < (rd.length : Int)) (by omega) kr (sd_run 11 (sd_ix 113 (.pointer (some ⟨2, 0 + j * 1, none⟩)) j rd.length kr kr kr (by omega) (sd_ld 114 (.int .i64 a44) 3 (.pointer (some ⟨2, 0 + j * 1, none⟩)) kr kr kr (ld_cell (l := rd) (e := 3) (ro := false) (k := j) (j := 0) inC_len kr kr kr ha44 rfl) (sd_run 2 ?_)))))
                 rcases Bool.eq_false_or_eq_true (decide ((a44 : Int) < 0)) with hc45 | hc45
                 ·skip
                  refine sd_see 116 (.bool true) (see_bool kr hc45) (sd_run 25 ?_)
                  have hR : rightB c od rd nd nr hd hr fl tg br ct vs = false := rightB_no fun h9 => by
                   have qvs_ := h9.vs_; have qlen := h9.len; have qnd_ := h9.nd_; have qnr_ := h9.nr_; have qhd_ := h9.hd_; have qhr_ := h9.hr_; have qct_ := h9.ct_; have qfl_ := h9.fl_; have qtg_ := h9.tg_; have qbr_ := h9.br_
                   have q := valB_iff.1 (h9.rd_ j a44 ha44); simp at hc37 hc45; omega
                  refine sdY (.bool false) hX [(iiCo c false), (inCo od false), (inCo rd false)] i3_ ⟨iiC_b, inC_b, inC_b, ⟨⟩⟩ ⟨(by rw [hR]), rfl⟩
                 ·skip
                  refine sd_see 116 (.bool false) (see_bool kr hc45) (sd_run 2 (sd_ix 119 (.pointer (some ⟨2, 0 + j * 1, none⟩)) j rd.length kr kr kr (by omega) (sd_ld 120 (.int .i64 a44) 3 (.pointer (some ⟨2, 0 + j * 1, none⟩)) kr kr kr (ld_cell (l := rd) (e := 3) (ro := false) (k := j) (j := 0) inC_len kr kr kr ha44 rfl) (sd_run 5 ?_))))
                  rcases Bool.eq_false_or_eq_true (decide ((a44 : Int) ≥ (c.length : Int))) with hc46 | hc46
                  ·skip
                   refine sd_see 123 (.bool true) (see_bool kr hc46) (sd_run 16 ?_)
                   have hR : rightB c od rd nd nr hd hr fl tg br ct vs = false := rightB_no fun h9 => by
                    have qvs_ := h9.vs_; have qlen := h9.len; have qnd_ := h9.nd_; have qnr_ := h9.nr_; have qhd_ := h9.hd_; have qhr_ := h9.hr_; have qct_ := h9.ct_; have qfl_ := h9.fl_; have qtg_ := h9.tg_; have qbr_ := h9.br_
                    have q := valB_iff.1 (h9.rd_ j a44 ha44); simp at hc45 hc46; omega
                   refine sdY (.bool false) hX [(iiCo c false), (inCo od false), (inCo rd false)] i3_ ⟨iiC_b, inC_b, inC_b, ⟨⟩⟩ ⟨(by rw [hR]), rfl⟩
                  ·skip
                   refine sd_see 123 (.bool false) (see_bool kr hc46) (sd_run 7 (sd_see 110 (.int .i64 ((j + 1 : Nat) : Int)) (see_int (x := (IntKind.i64.wrap ((j : Int) + 1))) kr (w64 (by omega) (by omega) (by omega))) (sd_run 2 ?_)))
                   refine sd_inv R6_ kr (hR6_ _ (rd.length - (j + 1)) _ e5_ (by omega) ⟨j + 1, rfl, (by omega), (fun i x hj hx => by rcases (by omega : i < j ∨ i = j) with q | rfl; exact i6_1 i x q hx; rw [ha44] at hx; cases hx; refine valB_iff.2 ?_; simp at hc45 hc46; omega), rfl⟩ ⟨sub_of kr kr ⟨iiC_b, inC_b, inC_b, brn, brn, ⟨⟩⟩, te_of kr kr⟩ kr)
                ·skip
                 have hje_rd : j = rd.length := by omega
                 refine sd_run 7 (sdF 108 ((j : Int) < (rd.length : Int)) (by omega) kr (sd_run 33 ?_))
                 rcases Bool.eq_false_or_eq_true (decide ((fl : Int) ≥ (-1))) with hc47 | hc47
                 ·skip
                  refine sd_see 128 (.bool true) (see_bool kr hc47) (sd_run 6 ?_)
                  rcases Bool.eq_false_or_eq_true (decide ((fl : Int) < (c.length : Int))) with hc48 | hc48
                  ·skip
                   refine sd_see 134 (.bool true) (see_bool kr hc48) (sd_run 5 ?_)
                   rcases Bool.eq_false_or_eq_true (decide ((tg : Int) ≥ (-1))) with hc49 | hc49
                   ·skip
                    refine sd_see 139 (.bool true) (see_bool kr hc49) (sd_run 9 ?_)
                    rcases Bool.eq_false_or_eq_true (decide ((tg : Int) < (c.length : Int))) with hc50 | hc50
                    ·skip
                     refine sd_see 2 (.bool true) (see_bool kr hc50) ?_
                     have hR : rightB c od rd nd nr hd hr fl tg br ct vs = true := by
                      have phc1 := hc1; have phc2 := hc2; have phc3 := hc3; have phc4 := hc4; have phc5 := hc5; have phc30 := hc30; have phc31 := hc31; have phc32 := hc32; have phc33 := hc33; have phc34 := hc34; have phc35 := hc35; have phc36 := hc36; have phc37 := hc37; have phc47 := hc47; have phc48 := hc48; have phc49 := hc49; have phc50 := hc50; (try simp at phc1 phc2 phc3 phc4 phc5 phc30 phc31 phc32 phc33 phc34 phc35 phc36 phc37 phc47 phc48 phc49 phc50)
                      exact rightB_yes ⟨by omega, by omega, by omega, by omega, by omega, by omega, by omega, fun q x h => i4_1 q x (by have := (List.getElem?_eq_some_iff.1 h).1; omega) h, fun q x h => i5_1 q x (by have := (List.getElem?_eq_some_iff.1 h).1; omega) h, fun q x h => i6_1 q x (by have := (List.getElem?_eq_some_iff.1 h).1; omega) h, by by_cases h : fl = -1; exact .inl h; exact .inr (valB_iff.2 (by omega)), by by_cases h : tg = -1; exact .inl h; exact .inr (valB_iff.2 (by omega)), by omega⟩
                     refine sdY (.bool true) hX [(iiCo c false), (inCo od false), (inCo rd false)] i3_ ⟨iiC_b, inC_b, inC_b, ⟨⟩⟩ ⟨(by rw [hR]), rfl⟩
                    ·skip
                     refine sd_see 2 (.bool false) (see_bool kr hc50) ?_
                     have hR : rightB c od rd nd nr hd hr fl tg br ct vs = false := rightB_no fun h9 => by
                      have qvs_ := h9.vs_; have qlen := h9.len; have qnd_ := h9.nd_; have qnr_ := h9.nr_; have qhd_ := h9.hd_; have qhr_ := h9.hr_; have qct_ := h9.ct_; have qfl_ := h9.fl_; have qtg_ := h9.tg_; have qbr_ := h9.br_
                      have qfl2 : fl = -1 ∨ (0 ≤ fl ∧ fl < vs) := h9.fl_.imp id valB_iff.1; have qtg2 : tg = -1 ∨ (0 ≤ tg ∧ tg < vs) := h9.tg_.imp id valB_iff.1; (try simp at hc1 hc2 hc3 hc4 hc5 hc30 hc31 hc32 hc33 hc34 hc35 hc36 hc37 hc47 hc48 hc49 hc50); omega
                     refine sdY (.bool false) hX [(iiCo c false), (inCo od false), (inCo rd false)] i3_ ⟨iiC_b, inC_b, inC_b, ⟨⟩⟩ ⟨(by rw [hR]), rfl⟩
                   ·skip
                    refine sd_see 139 (.bool false) (see_bool kr hc49) (sd_run 9 ?_)
                    have hR : rightB c od rd nd nr hd hr fl tg br ct vs = false := rightB_no fun h9 => by
                     have qvs_ := h9.vs_; have qlen := h9.len; have qnd_ := h9.nd_; have qnr_ := h9.nr_; have qhd_ := h9.hd_; have qhr_ := h9.hr_; have qct_ := h9.ct_; have qfl_ := h9.fl_; have qtg_ := h9.tg_; have qbr_ := h9.br_
                     have qfl2 : fl = -1 ∨ (0 ≤ fl ∧ fl < vs) := h9.fl_.imp id valB_iff.1; have qtg2 : tg = -1 ∨ (0 ≤ tg ∧ tg < vs) := h9.tg_.imp id valB_iff.1; (try simp at hc1 hc2 hc3 hc4 hc5 hc30 hc31 hc32 hc33 hc34 hc35 hc36 hc37 hc47 hc48 hc49); omega
                    refine sdY (.bool false) hX [(iiCo c false), (inCo od false), (inCo rd false)] i3_ ⟨iiC_b, inC_b, inC_b, ⟨⟩⟩ ⟨(by rw [hR]), rfl⟩
                  ·skip
                   refine sd_see 134 (.bool false) (see_bool kr hc48) (sd_run 14 ?_)
                   have hR : rightB c od rd nd nr hd hr fl tg br ct vs = false := rightB_no fun h9 => by
                    have qvs_ := h9.vs_; have qlen := h9.len; have qnd_ := h9.nd_; have qnr_ := h9.nr_; have qhd_ := h9.hd_; have qhr_ := h9.hr_; have qct_ := h9.ct_; have qfl_ := h9.fl_; have qtg_ := h9.tg_; have qbr_ := h9.br_
                    have qfl2 : fl = -1 ∨ (0 ≤ fl ∧ fl < vs) := h9.fl_.imp id valB_iff.1; have qtg2 : tg = -1 ∨ (0 ≤ tg ∧ tg < vs) := h9.tg_.imp id valB_iff.1; (try simp at hc1 hc2 hc3 hc4 hc5 hc30 hc31 hc32 hc33 hc34 hc35 hc36 hc37 hc47 hc48); omega
                   refine sdY (.bool false) hX [(iiCo c false), (inCo od false), (inCo rd false)] i3_ ⟨iiC_b, inC_b, inC_b, ⟨⟩⟩ ⟨(by rw [hR]), rfl⟩
                 ·skip
                  refine sd_see 128 (.bool false) (see_bool kr hc47) (sd_run 20 ?_)
                  have hR : rightB c od rd nd nr hd hr fl tg br ct vs = false := rightB_no fun h9 => by
                   have qvs_ := h9.vs_; have qlen := h9.len; have qnd_ := h9.nd_; have qnr_ := h9.nr_; have qhd_ := h9.hd_; have qhr_ := h9.hr_; have qct_ := h9.ct_; have qfl_ := h9.fl_; have qtg_ := h9.tg_; have qbr_ := h9.br_
                   have qfl2 : fl = -1 ∨ (0 ≤ fl ∧ fl < vs) := h9.fl_.imp id valB_iff.1; have qtg2 : tg = -1 ∨ (0 ≤ tg ∧ tg < vs) := h9.tg_.imp id valB_iff.1; (try simp at hc1 hc2 hc3 hc4 hc5 hc30 hc31 hc32 hc33 hc34 hc35 hc36 hc37 hc47); omega
                  refine sdY (.bool false) hX [(iiCo c false), (inCo od false), (inCo rd false)] i3_ ⟨iiC_b, inC_b, inC_b, ⟨⟩⟩ ⟨(by rw [hR]), rfl⟩
end Ls
end Go.Proofs.YtgpphhdndmdlgaaDoor
