/- Chapter 19: the document: which operations may be. -/
import Derived.Test.YtgpphhdndmdlgaaDoorKd
namespace Go.Proofs.YtgpphhdndmdlgaaDoor
open Go Go.Ev Go.RowKit
set_option linter.unusedVariables false
set_option linter.unusedSimpArgs false
set_option maxRecDepth 100000
namespace Ls
noncomputable def f36b : Code := Tryd.f36.body.getD .skip
theorem f36_body : Tryd.f36.body = some f36b := by kernel_rfl
theorem f36_fn : T20.fn 36 = some Tryd.f36 := by kernel_rfl
set_option maxHeartbeats 1000000 in
theorem rr1_any {c : List II} {od rd : List Int} {nd nr hd hr fl nx tg br tk ct vs : Int} {o dd a b im : Int} (hi : 0 ≤ im ∧ im < 4294967296) (hnd : 0 ≤ nd ∧ nd ≤ 16) (hnr : 0 ≤ nr ∧ nr ≤ 16) : SCall Tryd.prog T20 36 #[(pgV (s5 0 c.length) nd nr hd hr (s1 1 od.length) (s1 2 rd.length) fl nx tg br tk ct vs), (c5A o dd a b im)] (hq [(iiCo c false), (inCo od false), (inCo rd false)]) fun v h => v = .bool (madeB nd nr (o, dd, a, b, im) dd) ∧ h = hq [(iiCo c false), (inCo od false), (inCo rd false)] := by
 refine scall_sd 107 _ 3 kr f36_fn f36_body rfl rfl rfl fun X hX => ?_
 refine sd_run 8 (sd_mid 107 (cl (cr f36b)) [.next (cr (cr f36b))] kr kr kr (fun s9 => s9 = ⟨tmL [(2, .pointer (some ⟨3, 0, none⟩)), (3, .pointer (some ⟨4, 0, none⟩)), (5, .bool (valB a dd && valB b dd))], hq [(iiCo c false), (inCo od false), (inCo rd false), some ⟨(pgL (s5 0 c.length) nd nr hd hr (s1 1 od.length) (s1 2 rd.length) fl nx tg br tk ct vs), 32, false⟩, some ⟨(c5L o dd a b im), 41, false⟩]⟩) hX ?_ ?_)
 ·intro R1_ hR1_
  refine sd_run 5 ?_
  rcases Bool.eq_false_or_eq_true (decide ((a : Int) ≥ 0)) with hc1 | hc1
  ·skip
   refine sd_see 9 (.bool true) (see_bool kr hc1) (sd_run 7 ?_)
   rcases Bool.eq_false_or_eq_true (decide ((a : Int) < dd)) with hc2 | hc2
   ·skip
    refine sd_see 16 (.bool true) (see_bool kr hc2) (sd_run 5 ?_)
    rcases Bool.eq_false_or_eq_true (decide ((b : Int) ≥ 0)) with hc3 | hc3
    ·skip
     refine sd_see 21 (.bool true) (see_bool kr hc3) (sd_run 8 (sd_see 5 (.bool (valB a dd && valB b dd)) (see_bool (x := (decide ((b : Int) < dd))) kr (by simp only [decide_eq_true_eq, decide_eq_false_iff_not] at hc1 hc2 hc3; rw [Bool.eq_iff_iff]; simp [valB] <;> omega)) ?_))
     refine sd_inv R1_ kr (hR1_ _ _ e5_ rfl ⟨sub_of kr kr ⟨iiC_b, inC_b, inC_b, brn, brn, ⟨⟩⟩, te_of kr kr⟩ kr)
    ·skip
     refine sd_see 21 (.bool false) (see_bool kr hc3) (sd_run 8 (sd_see 5 (.bool (valB a dd && valB b dd)) (see_bool (x := false) kr (by simp only [decide_eq_true_eq, decide_eq_false_iff_not] at hc1 hc2 hc3; rw [Bool.eq_iff_iff]; simp [valB] <;> omega)) ?_))
     refine sd_inv R1_ kr (hR1_ _ _ e5_ rfl ⟨sub_of kr kr ⟨iiC_b, inC_b, inC_b, brn, brn, ⟨⟩⟩, te_of kr kr⟩ kr)
   ·skip
    refine sd_see 16 (.bool false) (see_bool kr hc2) (sd_run 13 (sd_see 5 (.bool (valB a dd && valB b dd)) (see_bool (x := false) kr (by simp only [decide_eq_true_eq, decide_eq_false_iff_not] at hc1 hc2; rw [Bool.eq_iff_iff]; simp [valB] <;> omega)) ?_))
    refine sd_inv R1_ kr (hR1_ _ _ e5_ rfl ⟨sub_of kr kr ⟨iiC_b, inC_b, inC_b, brn, brn, ⟨⟩⟩, te_of kr kr⟩ kr)
  ·skip
   refine sd_see 9 (.bool false) (see_bool kr hc1) (sd_run 20 (sd_see 5 (.bool (valB a dd && valB b dd)) (see_bool (x := false) kr (by simp only [decide_eq_true_eq, decide_eq_false_iff_not] at hc1; rw [Bool.eq_iff_iff]; simp [valB] <;> omega)) ?_))
   refine sd_inv R1_ kr (hR1_ _ _ e5_ rfl ⟨sub_of kr kr ⟨iiC_b, inC_b, inC_b, brn, brn, ⟨⟩⟩, te_of kr kr⟩ kr)
 ·rintro s9 rfl
  refine sd_run 15 ?_
  rcases Bool.eq_false_or_eq_true ((o : Int) == 0) with hc4 | hc4
  ·skip
   refine sd_see 30 (.bool true) (see_bool kr hc4) (sd_run 7 ?_)
   rcases Bool.eq_false_or_eq_true ((a : Int) == 0) with hc5 | hc5
   ·skip
    refine sd_see 35 (.bool true) (see_bool kr hc5) (sd_run 10 ?_)
    rcases Bool.eq_false_or_eq_true ((b : Int) == 0) with hc6 | hc6
    ·skip
     refine sd_see 4 (.bool true) (see_bool kr hc6) ?_
     refine sdY (.bool true) hX [(iiCo c false), (inCo od false), (inCo rd false)] i3_ ⟨iiC_b, inC_b, inC_b, ⟨⟩⟩ ⟨(by congr 1; (try simp at hc4 hc5 hc6); unfold madeB; simp [hc4, hc5, hc6] <;> (first | rfl | omega | (intros; omega) | (rw [Bool.eq_iff_iff]; simp; omega) | (intros; simp_all; done) | (simp_all; done))), rfl⟩
    ·skip
     refine sd_see 4 (.bool false) (see_bool kr hc6) ?_
     refine sdY (.bool false) hX [(iiCo c false), (inCo od false), (inCo rd false)] i3_ ⟨iiC_b, inC_b, inC_b, ⟨⟩⟩ ⟨(by congr 1; (try simp at hc4 hc5 hc6); unfold madeB; simp [hc4, hc5, hc6] <;> (first | rfl | omega | (intros; omega) | (rw [Bool.eq_iff_iff]; simp; omega) | (intros; simp_all; done) | (simp_all; done))), rfl⟩
   ·skip
    refine sd_see 35 (.bool false) (see_bool kr hc5) (sd_run 10 ?_)
    refine sdY (.bool false) hX [(iiCo c false), (inCo od false), (inCo rd false)] i3_ ⟨iiC_b, inC_b, inC_b, ⟨⟩⟩ ⟨(by congr 1; (try simp at hc4 hc5); unfold madeB; simp [hc4, hc5] <;> (first | rfl | omega | (intros; omega) | (rw [Bool.eq_iff_iff]; simp; omega) | (intros; simp_all; done) | (simp_all; done))), rfl⟩
  ·skip
   refine sd_see 30 (.bool false) (see_bool kr hc4) (sd_run 7 ?_)
   rcases Bool.eq_false_or_eq_true ((o : Int) == 1) with hc7 | hc7
   ·skip
    refine sd_see 40 (.bool true) (see_bool kr hc7) (sd_run 7 ?_)
    rcases Bool.eq_false_or_eq_true ((a : Int) == 0) with hc8 | hc8
    ·skip
     refine sd_see 45 (.bool true) (see_bool kr hc8) (sd_run 5 ?_)
     rcases Bool.eq_false_or_eq_true ((b : Int) == 0) with hc9 | hc9
     ·skip
      refine sd_see 50 (.bool true) (see_bool kr hc9) (sd_run 5 (sd_see 55 (.int .u32 nd) (see_int (x := (IntKind.u32.wrap nd)) kr (wu32 rfl (by omega) (by omega))) (sd_run 8 ?_)))
      rcases Bool.eq_false_or_eq_true (decide ((im : Int) < nd)) with hc10 | hc10
      ·skip
       refine sd_see 4 (.bool true) (see_bool kr hc10) ?_
       refine sdY (.bool true) hX [(iiCo c false), (inCo od false), (inCo rd false)] i3_ ⟨iiC_b, inC_b, inC_b, ⟨⟩⟩ ⟨(by congr 1; (try simp at hc4 hc7 hc8 hc9 hc10); unfold madeB; simp [hc4, hc7, hc8, hc9, hc10] <;> (first | rfl | omega | (intros; omega) | (rw [Bool.eq_iff_iff]; simp; omega) | (intros; simp_all; done) | (simp_all; done))), rfl⟩
      ·skip
       refine sd_see 4 (.bool false) (see_bool kr hc10) ?_
       refine sdY (.bool false) hX [(iiCo c false), (inCo od false), (inCo rd false)] i3_ ⟨iiC_b, inC_b, inC_b, ⟨⟩⟩ ⟨(by congr 1; (try simp at hc4 hc7 hc8 hc9 hc10); unfold madeB; simp [hc4, hc7, hc8, hc9, hc10] <;> (first | rfl | omega | (intros; omega) | (rw [Bool.eq_iff_iff]; simp; omega) | (intros; simp_all; done) | (simp_all; done))), rfl⟩
     ·skip
      refine sd_see 50 (.bool false) (see_bool kr hc9) (sd_run 13 ?_)
      refine sdY (.bool false) hX [(iiCo c false), (inCo od false), (inCo rd false)] i3_ ⟨iiC_b, inC_b, inC_b, ⟨⟩⟩ ⟨(by congr 1; (try simp at hc4 hc7 hc8 hc9); unfold madeB; simp [hc4, hc7, hc8, hc9] <;> (first | rfl | omega | (intros; omega) | (rw [Bool.eq_iff_iff]; simp; omega) | (intros; simp_all; done) | (simp_all; done))), rfl⟩
    ·skip
     refine sd_see 45 (.bool false) (see_bool kr hc8) (sd_run 18 ?_)
     refine sdY (.bool false) hX [(iiCo c false), (inCo od false), (inCo rd false)] i3_ ⟨iiC_b, inC_b, inC_b, ⟨⟩⟩ ⟨(by congr 1; (try simp at hc4 hc7 hc8); unfold madeB; simp [hc4, hc7, hc8] <;> (first | rfl | omega | (intros; omega) | (rw [Bool.eq_iff_iff]; simp; omega) | (intros; simp_all; done) | (simp_all; done))), rfl⟩
   ·skip
    refine sd_see 40 (.bool false) (see_bool kr hc7) (sd_run 7 ?_)
    rcases Bool.eq_false_or_eq_true ((o : Int) == 2) with hc11 | hc11
    ·skip
     refine sd_see 58 (.bool true) (see_bool kr hc11) (sd_run 7 ?_)
     rcases Bool.eq_false_or_eq_true ((a : Int) == 0) with hc12 | hc12
     ·skip
      refine sd_see 63 (.bool true) (see_bool kr hc12) (sd_run 5 ?_)
      rcases Bool.eq_false_or_eq_true ((b : Int) == 0) with hc13 | hc13
      ·skip
       refine sd_see 68 (.bool true) (see_bool kr hc13) (sd_run 5 (sd_see 73 (.int .u32 nr) (see_int (x := (IntKind.u32.wrap nr)) kr (wu32 rfl (by omega) (by omega))) (sd_run 8 ?_)))
       rcases Bool.eq_false_or_eq_true (decide ((im : Int) < nr)) with hc14 | hc14
       ·skip
        refine sd_see 4 (.bool true) (see_bool kr hc14) ?_
        refine sdY (.bool true) hX [(iiCo c false), (inCo od false), (inCo rd false)] i3_ ⟨iiC_b, inC_b, inC_b, ⟨⟩⟩ ⟨(by congr 1; (try simp at hc4 hc7 hc11 hc12 hc13 hc14); unfold madeB; simp [hc4, hc7, hc11, hc12, hc13, hc14] <;> (first | rfl | omega | (intros; omega) | (rw [Bool.eq_iff_iff]; simp; omega) | (intros; simp_all; done) | (simp_all; done))), rfl⟩
       ·skip
        refine sd_see 4 (.bool false) (see_bool kr hc14) ?_
        refine sdY (.bool false) hX [(iiCo c false), (inCo od false), (inCo rd false)] i3_ ⟨iiC_b, inC_b, inC_b, ⟨⟩⟩ ⟨(by congr 1; (try simp at hc4 hc7 hc11 hc12 hc13 hc14); unfold madeB; simp [hc4, hc7, hc11, hc12, hc13, hc14] <;> (first | rfl | omega | (intros; omega) | (rw [Bool.eq_iff_iff]; simp; omega) | (intros; simp_all; done) | (simp_all; done))), rfl⟩
      ·skip
       refine sd_see 68 (.bool false) (see_bool kr hc13) (sd_run 13 ?_)
       refine sdY (.bool false) hX [(iiCo c false), (inCo od false), (inCo rd false)] i3_ ⟨iiC_b, inC_b, inC_b, ⟨⟩⟩ ⟨(by congr 1; (try simp at hc4 hc7 hc11 hc12 hc13); unfold madeB; simp [hc4, hc7, hc11, hc12, hc13] <;> (first | rfl | omega | (intros; omega) | (rw [Bool.eq_iff_iff]; simp; omega) | (intros; simp_all; done) | (simp_all; done))), rfl⟩
     ·skip
      refine sd_see 63 (.bool false) (see_bool kr hc12) (sd_run 18 ?_)
      refine sdY (.bool false) hX [(iiCo c false), (inCo od false), (inCo rd false)] i3_ ⟨iiC_b, inC_b, inC_b, ⟨⟩⟩ ⟨(by congr 1; (try simp at hc4 hc7 hc11 hc12); unfold madeB; simp [hc4, hc7, hc11, hc12] <;> (first | rfl | omega | (intros; omega) | (rw [Bool.eq_iff_iff]; simp; omega) | (intros; simp_all; done) | (simp_all; done))), rfl⟩
    ·skip
     refine sd_see 58 (.bool false) (see_bool kr hc11) (sd_run 7 ?_)
     rcases Bool.eq_false_or_eq_true ((o : Int) == 3) with hc15 | hc15
     ·skip
      refine sd_see 76 (.bool true) (see_bool kr hc15) (sd_run 5 ?_)
      rcases Bool.eq_false_or_eq_true (valB a dd && valB b dd) with hc16 | hc16
      ·skip
       refine sd_see 79 (.bool true) (see_bool kr hc16) (sd_run 5 ?_)
       rcases Bool.eq_false_or_eq_true (decide ((im : Int) ≥ 16)) with hc17 | hc17
       ·skip
        refine sd_see 84 (.bool true) (see_bool kr hc17) (sd_run 10 ?_)
        rcases Bool.eq_false_or_eq_true (decide ((im : Int) ≤ 23)) with hc18 | hc18
        ·skip
         refine sd_see 4 (.bool true) (see_bool kr hc18) ?_
         refine sdY (.bool true) hX [(iiCo c false), (inCo od false), (inCo rd false)] i3_ ⟨iiC_b, inC_b, inC_b, ⟨⟩⟩ ⟨(by congr 1; (try simp at hc4 hc7 hc11 hc15 hc16 hc17 hc18); unfold madeB; simp [hc4, hc7, hc11, hc15, hc16, hc17, hc18] <;> (first | rfl | omega | (intros; omega) | (rw [Bool.eq_iff_iff]; simp; omega) | (intros; simp_all; done) | (simp_all; done))), rfl⟩
        ·skip
         refine sd_see 4 (.bool false) (see_bool kr hc18) ?_
         refine sdY (.bool false) hX [(iiCo c false), (inCo od false), (inCo rd false)] i3_ ⟨iiC_b, inC_b, inC_b, ⟨⟩⟩ ⟨(by congr 1; (try simp at hc4 hc7 hc11 hc15 hc16 hc17 hc18); unfold madeB; simp [hc4, hc7, hc11, hc15, hc16, hc17, hc18] <;> (first | rfl | omega | (intros; omega) | (rw [Bool.eq_iff_iff]; simp; omega) | (intros; simp_all; done) | (simp_all; done))), rfl⟩
       ·skip
        refine sd_see 84 (.bool false) (see_bool kr hc17) (sd_run 10 ?_)
        refine sdY (.bool false) hX [(iiCo c false), (inCo od false), (inCo rd false)] i3_ ⟨iiC_b, inC_b, inC_b, ⟨⟩⟩ ⟨(by congr 1; (try simp at hc4 hc7 hc11 hc15 hc16 hc17); unfold madeB; simp [hc4, hc7, hc11, hc15, hc16, hc17] <;> (first | rfl | omega | (intros; omega) | (rw [Bool.eq_iff_iff]; simp; omega) | (intros; simp_all; done) | (simp_all; done))), rfl⟩
      ·skip
       refine sd_see 79 (.bool false) (see_bool kr hc16) (sd_run 15 ?_)
       refine sdY (.bool false) hX [(iiCo c false), (inCo od false), (inCo rd false)] i3_ ⟨iiC_b, inC_b, inC_b, ⟨⟩⟩ ⟨(by congr 1; (try simp at hc4 hc7 hc11 hc15 hc16); unfold madeB; simp [hc4, hc7, hc11, hc15, hc16] <;> (first | rfl | omega | (intros; omega) | (rw [Bool.eq_iff_iff]; simp; omega) | (intros; simp_all; done) | (simp_all; done))), rfl⟩
     ·skip
      refine sd_see 76 (.bool false) (see_bool kr hc15) (sd_run 7 ?_)
      rcases Bool.eq_false_or_eq_true ((o : Int) == 4) with hc19 | hc19
      ·skip
       refine sd_see 89 (.bool true) (see_bool kr hc19) (sd_run 5 ?_)
       rcases Bool.eq_false_or_eq_true (valB a dd && valB b dd) with hc20 | hc20
       ·skip
        refine sd_see 92 (.bool true) (see_bool kr hc20) (sd_run 4 ?_)
        rcases Bool.eq_false_or_eq_true (decide ((im : Int) ≥ 16)) with hc21 | hc21
        ·skip
         refine sd_see 96 (.bool true) (see_bool kr hc21) (sd_run 5 ?_)
         rcases Bool.eq_false_or_eq_true (decide ((im : Int) ≤ 23)) with hc22 | hc22
         ·skip
          refine sd_see 101 (.bool true) (see_bool kr hc22) (sd_run 11 ?_)
          refine sdY (.bool true) hX [(iiCo c false), (inCo od false), (inCo rd false)] i3_ ⟨iiC_b, inC_b, inC_b, ⟨⟩⟩ ⟨(by congr 1; (try simp at hc4 hc7 hc11 hc15 hc19 hc20 hc21 hc22); unfold madeB; simp [hc4, hc7, hc11, hc15, hc19, hc20, hc21, hc22] <;> (first | rfl | omega | (intros; omega) | (rw [Bool.eq_iff_iff]; simp; omega) | (intros; simp_all; done) | (simp_all; done))), rfl⟩
         ·skip
          refine sd_see 101 (.bool false) (see_bool kr hc22) (sd_run 11 ?_)
          rcases Bool.eq_false_or_eq_true ((im : Int) == 25) with hc23 | hc23
          ·skip
           refine sd_see 4 (.bool true) (see_bool kr hc23) ?_
           refine sdY (.bool true) hX [(iiCo c false), (inCo od false), (inCo rd false)] i3_ ⟨iiC_b, inC_b, inC_b, ⟨⟩⟩ ⟨(by congr 1; (try simp at hc4 hc7 hc11 hc15 hc19 hc20 hc21 hc22 hc23); unfold madeB; simp [hc4, hc7, hc11, hc15, hc19, hc20, hc21, hc22, hc23] <;> (first | rfl | omega | (intros; omega) | (rw [Bool.eq_iff_iff]; simp; omega) | (intros; simp_all; done) | (simp_all; done))), rfl⟩
          ·skip
           refine sd_see 4 (.bool false) (see_bool kr hc23) ?_
           refine sdY (.bool false) hX [(iiCo c false), (inCo od false), (inCo rd false)] i3_ ⟨iiC_b, inC_b, inC_b, ⟨⟩⟩ ⟨(by congr 1; (try simp at hc4 hc7 hc11 hc15 hc19 hc20 hc21 hc22 hc23); unfold madeB; simp [hc4, hc7, hc11, hc15, hc19, hc20, hc21, hc22, hc23] <;> (first | rfl | omega | (intros; omega) | (rw [Bool.eq_iff_iff]; simp; omega) | (intros; simp_all; done) | (simp_all; done))), rfl⟩
        ·skip
         refine sd_see 96 (.bool false) (see_bool kr hc21) (sd_run 16 ?_)
         rcases Bool.eq_false_or_eq_true ((im : Int) == 25) with hc24 | hc24
         ·skip
          refine sd_see 4 (.bool true) (see_bool kr hc24) ?_
          refine sdY (.bool true) hX [(iiCo c false), (inCo od false), (inCo rd false)] i3_ ⟨iiC_b, inC_b, inC_b, ⟨⟩⟩ ⟨(by congr 1; (try simp at hc4 hc7 hc11 hc15 hc19 hc20 hc21 hc24); unfold madeB; simp [hc4, hc7, hc11, hc15, hc19, hc20, hc21, hc24] <;> (first | rfl | omega | (intros; omega) | (rw [Bool.eq_iff_iff]; simp; omega) | (intros; simp_all; done) | (simp_all; done))), rfl⟩
         ·skip
          refine sd_see 4 (.bool false) (see_bool kr hc24) ?_
          refine sdY (.bool false) hX [(iiCo c false), (inCo od false), (inCo rd false)] i3_ ⟨iiC_b, inC_b, inC_b, ⟨⟩⟩ ⟨(by congr 1; (try simp at hc4 hc7 hc11 hc15 hc19 hc20 hc21 hc24); unfold madeB; simp [hc4, hc7, hc11, hc15, hc19, hc20, hc21, hc24] <;> (first | rfl | omega | (intros; omega) | (rw [Bool.eq_iff_iff]; simp; omega) | (intros; simp_all; done) | (simp_all; done))), rfl⟩
       ·skip
        refine sd_see 92 (.bool false) (see_bool kr hc20) (sd_run 20 ?_)
        refine sdY (.bool false) hX [(iiCo c false), (inCo od false), (inCo rd false)] i3_ ⟨iiC_b, inC_b, inC_b, ⟨⟩⟩ ⟨(by congr 1; (try simp at hc4 hc7 hc11 hc15 hc19 hc20); unfold madeB; simp [hc4, hc7, hc11, hc15, hc19, hc20] <;> (first | rfl | omega | (intros; omega) | (rw [Bool.eq_iff_iff]; simp; omega) | (intros; simp_all; done) | (simp_all; done))), rfl⟩
      ·skip
       refine sd_see 89 (.bool false) (see_bool kr hc19) (sd_run 10 ?_)
       refine sdY (.bool false) hX [(iiCo c false), (inCo od false), (inCo rd false)] i3_ ⟨iiC_b, inC_b, inC_b, ⟨⟩⟩ ⟨(by congr 1; (try simp at hc4 hc7 hc11 hc15 hc19); unfold madeB; simp [hc4, hc7, hc11, hc15, hc19] <;> (first | rfl | omega | (intros; omega) | (rw [Bool.eq_iff_iff]; simp; omega) | (intros; simp_all; done) | (simp_all; done))), rfl⟩
end Ls
end Go.Proofs.YtgpphhdndmdlgaaDoor
