/- Chapter 21: the document: which blocks may be. -/
import Derived.Test.YtegjicaoemhhlaaJh
namespace Go.Proofs.Ytegjicaoemhhlaa
open Go Go.Ev Go.RowKit
set_option linter.unusedVariables false
set_option linter.unusedSimpArgs false
set_option maxRecDepth 100000
namespace Ls
theorem made_cases {nd nr o dd a b im k : Int} (h : madeB nd nr (o, dd, a, b, im) k = true) : dd = k ∧ ((o = 0 ∧ a = 0 ∧ b = 0) ∨ (o = 1 ∧ a = 0 ∧ b = 0 ∧ im < nd) ∨ (o = 2 ∧ a = 0 ∧ b = 0 ∧ im < nr) ∨ (o = 3 ∧ (0 ≤ a ∧ a < k) ∧ (0 ≤ b ∧ b < k) ∧ 16 ≤ im ∧ im ≤ 23) ∨ (o = 4 ∧ (0 ≤ a ∧ a < k) ∧ (0 ≤ b ∧ b < k) ∧ 16 ≤ im ∧ im ≤ 23) ∨ (o = 4 ∧ (0 ≤ a ∧ a < k) ∧ (0 ≤ b ∧ b < k) ∧ im = 25)) := by
 unfold madeB at h
 simp only [Bool.and_eq_true, decide_eq_true_eq] at h
 obtain ⟨h1, h⟩ := h
 refine ⟨h1, ?_⟩
 by_cases h0 : o = 0
 ·rw [if_pos h0] at h; simp at h; omega
 rw [if_neg h0] at h
 by_cases h2 : o = 1
 ·rw [if_pos h2] at h; simp at h; omega
 rw [if_neg h2] at h
 by_cases h3 : o = 2
 ·rw [if_pos h3] at h; simp at h; omega
 rw [if_neg h3] at h
 by_cases h4 : o = 3
 ·rw [if_pos h4] at h; simp [valB] at h; omega
 rw [if_neg h4] at h
 by_cases h5 : o = 4
 ·rw [if_pos h5] at h; simp [valB] at h; omega
 rw [if_neg h5] at h
 cases h
noncomputable def f40b : Code := Try.f40.body.getD .skip
theorem f40_body : Try.f40.body = some f40b := by kernel_rfl
theorem f40_fn : T16.fn 40 = some Try.f40 := by kernel_rfl
theorem rr1_s {c : List II} {od rd : List Int} {nd nr hd hr fl nx tg br tk ct vs : Int} {o dd a b im : Int} (hm : madeB nd nr (o, dd, a, b, im) dd = true) (hi : 0 ≤ im ∧ im < 4294967296) (hnd : 0 ≤ nd ∧ nd ≤ 16) (hnr : 0 ≤ nr ∧ nr ≤ 16) : SCall Try.prog T16 40 #[(pgV (s5 0 c.length) nd nr hd hr (s1 1 od.length) (s1 2 rd.length) fl nx tg br tk ct vs), .agg #[.int .i64 o, .int .i64 dd, .int .i64 a, .int .i64 b, .int .u32 im]] (hq [(iiCo c false), (inCo od false), (inCo rd false)]) fun v h => v = .bool true ∧ h = hq [(iiCo c false), (inCo od false), (inCo rd false)] := by
 obtain ⟨_, hcs⟩ := made_cases hm
 rcases hcs with hcs | hcs | hcs | hcs | hcs | hcs
 ·skip
  refine scall_sd 107 _ 3 kr f40_fn f40_body rfl rfl rfl fun X hX => ?_
  refine sd_run 12 (sdT 8 ((a : Int) ≥ 0) (by omega) kr (sd_run 8 ?_))
  rcases Bool.eq_false_or_eq_true (decide ((a : Int) < dd)) with hc1 | hc1
  ·skip
   refine sd_see 16 (.bool true) (see_bool kr hc1) (sd_run 3 (sdT 19 ((b : Int) ≥ 0) (by omega) kr (sd_run 22 (sdE 31 (o : Int) 0 (by omega) kr (sd_run 9 (sdE 34 (a : Int) 0 (by omega) kr (sd_run 4 ?_)))))))
   refine sdE 38 (b : Int) 0 (by omega) kr (sd_run 7 ?_)
   refine sdY (.bool true) hX [(iiCo c false), (inCo od false), (inCo rd false)] i3_ ⟨iiC_b, inC_b, inC_b, ⟨⟩⟩ ⟨rfl, rfl⟩
  ·skip
   refine sd_see 16 (.bool false) (see_bool kr hc1) (sd_run 25 (sdE 31 (o : Int) 0 (by omega) kr (sd_run 9 (sdE 34 (a : Int) 0 (by omega) kr (sd_run 4 (sdE 38 (b : Int) 0 (by omega) kr (sd_run 7 ?_)))))))
   refine sdY (.bool true) hX [(iiCo c false), (inCo od false), (inCo rd false)] i3_ ⟨iiC_b, inC_b, inC_b, ⟨⟩⟩ ⟨rfl, rfl⟩
 ·skip
  refine scall_sd 107 _ 3 kr f40_fn f40_body rfl rfl rfl fun X hX => ?_
  refine sd_run 12 (sdT 8 ((a : Int) ≥ 0) (by omega) kr (sd_run 8 ?_))
  rcases Bool.eq_false_or_eq_true (decide ((a : Int) < dd)) with hc2 | hc2
  ·skip
   refine sd_see 16 (.bool true) (see_bool kr hc2) (sd_run 3 (sdT 19 ((b : Int) ≥ 0) (by omega) kr (sd_run 22 (sdN 31 (o : Int) 0 (by omega) kr (sd_run 7 (sdE 41 (o : Int) 1 (by omega) kr (sd_run 9 ?_)))))))
   refine sdE 44 (a : Int) 0 (by omega) kr (sd_run 4 (sdE 48 (b : Int) 0 (by omega) kr (sd_run 7 (sd_see 55 (.int .u32 nd) (see_int (x := (IntKind.u32.wrap nd)) kr (wu32 rfl (by omega) (by omega))) (sd_run 1 (sdT 56 ((im : Int) < nd) (by omega) kr (sd_run 7 ?_)))))))
   refine sdY (.bool true) hX [(iiCo c false), (inCo od false), (inCo rd false)] i3_ ⟨iiC_b, inC_b, inC_b, ⟨⟩⟩ ⟨rfl, rfl⟩
  ·skip
   refine sd_see 16 (.bool false) (see_bool kr hc2) (sd_run 25 (sdN 31 (o : Int) 0 (by omega) kr (sd_run 7 (sdE 41 (o : Int) 1 (by omega) kr (sd_run 9 (sdE 44 (a : Int) 0 (by omega) kr (sd_run 4 ?_)))))))
   refine sdE 48 (b : Int) 0 (by omega) kr (sd_run 7 (sd_see 55 (.int .u32 nd) (see_int (x := (IntKind.u32.wrap nd)) kr (wu32 rfl (by omega) (by omega))) (sd_run 1 (sdT 56 ((im : Int) < nd) (by omega) kr (sd_run 7 ?_)))))
   refine sdY (.bool true) hX [(iiCo c false), (inCo od false), (inCo rd false)] i3_ ⟨iiC_b, inC_b, inC_b, ⟨⟩⟩ ⟨rfl, rfl⟩
 ·skip
  refine scall_sd 107 _ 3 kr f40_fn f40_body rfl rfl rfl fun X hX => ?_
  refine sd_run 12 (sdT 8 ((a : Int) ≥ 0) (by omega) kr (sd_run 8 ?_))
  rcases Bool.eq_false_or_eq_true (decide ((a : Int) < dd)) with hc3 | hc3
  ·skip
   refine sd_see 16 (.bool true) (see_bool kr hc3) (sd_run 3 (sdT 19 ((b : Int) ≥ 0) (by omega) kr (sd_run 22 (sdN 31 (o : Int) 0 (by omega) kr (sd_run 7 (sdN 41 (o : Int) 1 (by omega) kr (sd_run 7 ?_)))))))
   refine sdE 59 (o : Int) 2 (by omega) kr (sd_run 9 (sdE 62 (a : Int) 0 (by omega) kr (sd_run 4 (sdE 66 (b : Int) 0 (by omega) kr (sd_run 7 (sd_see 73 (.int .u32 nr) (see_int (x := (IntKind.u32.wrap nr)) kr (wu32 rfl (by omega) (by omega))) (sd_run 1 ?_)))))))
   refine sdT 74 ((im : Int) < nr) (by omega) kr (sd_run 7 ?_)
   refine sdY (.bool true) hX [(iiCo c false), (inCo od false), (inCo rd false)] i3_ ⟨iiC_b, inC_b, inC_b, ⟨⟩⟩ ⟨rfl, rfl⟩
  ·skip
   refine sd_see 16 (.bool false) (see_bool kr hc3) (sd_run 25 (sdN 31 (o : Int) 0 (by omega) kr (sd_run 7 (sdN 41 (o : Int) 1 (by omega) kr (sd_run 7 (sdE 59 (o : Int) 2 (by omega) kr (sd_run 9 ?_)))))))
   refine sdE 62 (a : Int) 0 (by omega) kr (sd_run 4 (sdE 66 (b : Int) 0 (by omega) kr (sd_run 7 (sd_see 73 (.int .u32 nr) (see_int (x := (IntKind.u32.wrap nr)) kr (wu32 rfl (by omega) (by omega))) (sd_run 1 (sdT 74 ((im : Int) < nr) (by omega) kr (sd_run 7 ?_)))))))
   refine sdY (.bool true) hX [(iiCo c false), (inCo od false), (inCo rd false)] i3_ ⟨iiC_b, inC_b, inC_b, ⟨⟩⟩ ⟨rfl, rfl⟩
 ·skip
  refine scall_sd 107 _ 3 kr f40_fn f40_body rfl rfl rfl fun X hX => ?_
  refine sd_run 12 (sdT 8 ((a : Int) ≥ 0) (by omega) kr (sd_run 6 (sdT 14 ((a : Int) < dd) (by omega) kr (sd_run 5 (sdT 19 ((b : Int) ≥ 0) (by omega) kr (sd_run 7 (sdT 26 ((b : Int) < dd) (by omega) kr ?_)))))))
  refine sd_run 15 (sdN 31 (o : Int) 0 (by omega) kr (sd_run 7 (sdN 41 (o : Int) 1 (by omega) kr (sd_run 7 (sdN 59 (o : Int) 2 (by omega) kr (sd_run 7 (sdE 77 (o : Int) 3 (by omega) kr ?_)))))))
  refine sd_run 11 (sdT 82 ((im : Int) ≥ 16) (by omega) kr (sd_run 5 (sdT 87 ((im : Int) ≤ 23) (by omega) kr (sd_run 7 ?_))))
  refine sdY (.bool true) hX [(iiCo c false), (inCo od false), (inCo rd false)] i3_ ⟨iiC_b, inC_b, inC_b, ⟨⟩⟩ ⟨rfl, rfl⟩
 ·skip
  refine scall_sd 107 _ 3 kr f40_fn f40_body rfl rfl rfl fun X hX => ?_
  refine sd_run 12 (sdT 8 ((a : Int) ≥ 0) (by omega) kr (sd_run 6 (sdT 14 ((a : Int) < dd) (by omega) kr (sd_run 5 (sdT 19 ((b : Int) ≥ 0) (by omega) kr (sd_run 7 (sdT 26 ((b : Int) < dd) (by omega) kr ?_)))))))
  refine sd_run 15 (sdN 31 (o : Int) 0 (by omega) kr (sd_run 7 (sdN 41 (o : Int) 1 (by omega) kr (sd_run 7 (sdN 59 (o : Int) 2 (by omega) kr (sd_run 7 (sdN 77 (o : Int) 3 (by omega) kr ?_)))))))
  refine sd_run 7 (sdE 90 (o : Int) 4 (by omega) kr (sd_run 11 (sdT 95 ((im : Int) ≥ 16) (by omega) kr (sd_run 4 (sdT 99 ((im : Int) ≤ 23) (by omega) kr (sd_run 13 ?_))))))
  refine sdY (.bool true) hX [(iiCo c false), (inCo od false), (inCo rd false)] i3_ ⟨iiC_b, inC_b, inC_b, ⟨⟩⟩ ⟨rfl, rfl⟩
 ·skip
  refine scall_sd 107 _ 3 kr f40_fn f40_body rfl rfl rfl fun X hX => ?_
  refine sd_run 12 (sdT 8 ((a : Int) ≥ 0) (by omega) kr (sd_run 6 (sdT 14 ((a : Int) < dd) (by omega) kr (sd_run 5 (sdT 19 ((b : Int) ≥ 0) (by omega) kr (sd_run 7 (sdT 26 ((b : Int) < dd) (by omega) kr ?_)))))))
  refine sd_run 15 (sdN 31 (o : Int) 0 (by omega) kr (sd_run 7 (sdN 41 (o : Int) 1 (by omega) kr (sd_run 7 (sdN 59 (o : Int) 2 (by omega) kr (sd_run 7 (sdN 77 (o : Int) 3 (by omega) kr ?_)))))))
  refine sd_run 7 (sdE 90 (o : Int) 4 (by omega) kr (sd_run 11 (sdT 95 ((im : Int) ≥ 16) (by omega) kr (sd_run 4 (sdF 99 ((im : Int) ≤ 23) (by omega) kr (sd_run 5 (sdE 104 (im : Int) 25 (by omega) kr ?_)))))))
  refine sd_run 8 ?_
  refine sdY (.bool true) hX [(iiCo c false), (inCo od false), (inCo rd false)] i3_ ⟨iiC_b, inC_b, inC_b, ⟨⟩⟩ ⟨rfl, rfl⟩
noncomputable def f20b : Code := Try.f20.body.getD .skip
theorem f20_body : Try.f20.body = some f20b := by kernel_rfl
theorem f20_fn : T16.fn 20 = some Try.f20 := by kernel_rfl
theorem made_dst {nd nr k : Int} {x : II} (h : madeB nd nr x k = true) : x.2.1 = k := by
 unfold madeB at h; simp only [Bool.and_eq_true, decide_eq_true_eq] at h; exact h.1
set_option maxHeartbeats 2000000 in
theorem rright_s {c : List II} {od rd : List Int} {nd nr hd hr fl nx tg br tk ct : Int} (hR : RightP c od rd nd nr hd hr fl tg br ct (c.length : Int)) (hol : od.length < 100000) (hrl : rd.length < 100000) (hi : ∀ x ∈ c, 0 ≤ x.2.2.2.2 ∧ x.2.2.2.2 < 4294967296) : SCall Try.prog T16 20 #[(pgV (s5 0 c.length) nd nr hd hr (s1 1 od.length) (s1 2 rd.length) fl nx tg br tk ct (c.length : Int))] (hq [(iiCo c false), (inCo od false), (inCo rd false)]) fun v h => v = .bool true ∧ h = hq [(iiCo c false), (inCo od false), (inCo rd false)] := by
 have q1 := hR.len
 have q2 := hR.nd_
 have q3 := hR.nr_
 have q4 := hR.hd_
 have q5 := hR.hr_
 have q6 := hR.ct_
 have q7 : fl = -1 ∨ (0 ≤ fl ∧ fl < (c.length : Int)) := hR.fl_.imp id valB_iff.1
 have q8 : tg = -1 ∨ (0 ≤ tg ∧ tg < (c.length : Int)) := hR.tg_.imp id valB_iff.1
 rcases hR.br_ with q9 | q9
 ·skip
  refine scall_sd 145 _ 3 kr f20_fn f20_body rfl rfl rfl fun X hX => ?_
  refine sd_run 21 (sdQ 16 (c.length : Int) (c.length : Int) (by omega) kr (sd_run 3 (sdF 19 ((c.length : Int) > 64) (by omega) kr (sd_run 5 (sdF 24 ((ct : Int) < 1) (by omega) kr (sd_run 5 (sdF 29 ((ct : Int) > 8) (by omega) kr ?_)))))))
  refine sd_run 5 (sdQ 34 (br : Int) 0 (by omega) kr (sd_run 61 (sdF 66 ((nd : Int) < 0) (by omega) kr (sd_run 3 (sdF 69 ((nd : Int) > 16) (by omega) kr (sd_run 35 (sdF 66 ((nr : Int) < 0) (by omega) kr ?_)))))))
  refine sd_run 3 (sdF 69 ((nr : Int) > 16) (by omega) kr (sd_run 35 (sdF 66 ((hd : Int) < 0) (by omega) kr (sd_run 3 (sdF 69 ((hd : Int) > 16) (by omega) kr (sd_run 35 (sdF 66 ((hr : Int) < 0) (by omega) kr ?_)))))))
  refine sd_run 3 (sdF 69 ((hr : Int) > 16) (by omega) kr (sd_run 32 ?_))
  refine sd_loop 145 (cl (cl (cr (cl (cr (cr (cr (cr f20b)))))))) [.blk 2, .next (cr (cr (cr (cr (cr f20b)))))] kr kr kr (fun m9 s9 => ∃ (k : Nat), m9 = c.length - k ∧ (k ≤ c.length) ∧ s9 = ⟨tmL [(1, .pointer (some ⟨3, 0, none⟩)), (3, .int .i64 (c.length : Int)), (6, .int .i64 (k : Int))], hq [(iiCo c false), (inCo od false), (inCo rd false), some ⟨[(s5 0 c.length), .int .i64 nd, .int .i64 nr, .int .i64 hd, .int .i64 hr, (s1 1 od.length), (s1 2 rd.length), .int .i64 fl, .int .u32 nx, .int .i64 tg, .int .i64 br, .int .u32 tk, .int .i64 ct, .int .i64 (c.length : Int)], 29, false⟩]⟩) (c.length - 0) _ e4_ hX ⟨0, rfl, (by omega), rfl⟩ ⟨sub_of kr kr ⟨iiC_b, inC_b, inC_b, brn, ⟨⟩⟩, te_of kr kr⟩ kr ?_
  rintro m9 s9 ⟨k, rfl, i1_0, rfl⟩ R1_ hR1_
  by_cases hlt : k < c.length
  ·skip
   obtain ⟨a1, ha1⟩ : ∃ x_, (c)[k]? = some x_ := ⟨_, List.getElem?_eq_getElem (by omega)⟩
   have ia1 := hi _ (List.mem_of_getElem? ha1)
   have hdst := made_dst (hR.code k a1 ha1)
   refine sd_run 6 (sdT 74 ((k : Int) < (c.length : Int)) (by omega) kr (sd_run 12 (sd_ix 80 (.pointer (some ⟨0, 0 + k * 5, none⟩)) k c.length kr kr kr (by omega) (sd_run 1 (sd_ld 82 (.int .i64 a1.2.1) 3 (.pointer (some ⟨0, 0 + k * 5 + 1, none⟩)) kr kr kr (ld_cell (l := c) (e := 61) (ro := false) (k := k) (j := 1) iiC_len kr kr kr ha1 rfl) (sd_run 2 (sd_see 84 (.bool false) (see_bool kr ((bne_eq_false_iff_eq.2 hdst) : ((a1.2.1 : Int) != (k : Int)) = false)) ?_)))))))
   refine sd_run 5 (sd_ix 90 (.pointer (some ⟨0, 0 + k * 5, none⟩)) k c.length kr kr kr (by omega) (sd_ld 91 (.agg #[.int .i64 a1.1, .int .i64 a1.2.1, .int .i64 a1.2.2.1, .int .i64 a1.2.2.2.1, .int .u32 a1.2.2.2.2]) 61 (.pointer (some ⟨0, 0 + k * 5, none⟩)) kr kr kr (ld_row (l := c) (e := 61) (ro := false) (k := k) iiC_len kr kr kr ha1) (sdCp 92 40 #[(pgV (s5 0 c.length) nd nr hd hr (s1 1 od.length) (s1 2 rd.length) fl nx tg br tk ct (c.length : Int)), .agg #[.int .i64 a1.1, .int .i64 a1.2.1, .int .i64 a1.2.2.1, .int .i64 a1.2.2.2.1, .int .u32 a1.2.2.2.2]] (@rr1_s c od rd nd nr hd hr fl nx tg br tk ct (c.length : Int) a1.1 a1.2.1 a1.2.2.1 a1.2.2.2.1 a1.2.2.2.2 (by have q := hR.code k a1 ha1; rw [← hdst] at q; exact q) ia1 hR.nd_ hR.nr_) i3_ ⟨iiC_b, inC_b, inC_b, ⟨⟩⟩ ?_)))
   rintro v9 k9 ⟨rfl, rfl⟩
   refine ⟨rfl, .bool true, kr, ?_⟩
   refine sd_run 11 (sd_see 76 (.int .i64 ((k + 1 : Nat) : Int)) (see_int (x := (IntKind.i64.wrap ((k : Int) + 1))) kr (w64 (by omega) (by omega) (by omega))) (sd_run 2 ?_))
   refine sd_inv R1_ kr (hR1_ _ (c.length - (k + 1)) _ e4_ (by omega) ⟨k + 1, rfl, (by omega), rfl⟩ ⟨sub_of kr kr ⟨iiC_b, inC_b, inC_b, brn, ⟨⟩⟩, te_of kr kr⟩ kr)
  ·skip
   obtain rfl : k = c.length := by omega
   refine sd_run 6 (sdF 74 ((c.length : Int) < (c.length : Int)) (by omega) kr (sd_run 46 ?_))
   refine sd_loop 145 (cl (cl (cr (cr (cl (cl (cr (cr (cl (cl (cr (cl (cr (cr (cr (cr (cr f20b))))))))))))))))) [.blk 6, .blk 5, .next (cr (cr (cr (cl (cl (cr (cl (cr (cr (cr (cr (cr f20b)))))))))))), .loop (cl (cl (cr (cl (cr (cr (cr (cr (cr f20b))))))))), .blk 4, .next (cr (cr (cr (cr (cr (cr f20b))))))] kr kr kr (fun m9 s9 => ∃ (j : Nat), m9 = od.length - j ∧ (j ≤ od.length) ∧ s9 = ⟨tmL [(1, .pointer (some ⟨3, 0, none⟩)), (3, .int .i64 (c.length : Int)), (8, (s1 1 od.length)), (9, .int .i64 (j : Int)), (99, .slice (some ⟨4, 0, none⟩) 2 2), (100, .int .i64 2), (101, .int .i64 0)], hq [(iiCo c false), (inCo od false), (inCo rd false), some ⟨[(s5 0 c.length), .int .i64 nd, .int .i64 nr, .int .i64 hd, .int .i64 hr, (s1 1 od.length), (s1 2 rd.length), .int .i64 fl, .int .u32 nx, .int .i64 tg, .int .i64 br, .int .u32 tk, .int .i64 ct, .int .i64 (c.length : Int)], 29, false⟩, some ⟨[(s1 1 od.length), (s1 2 rd.length)], 22, false⟩]⟩) (od.length - 0) _ e5_ hX ⟨0, rfl, (by omega), rfl⟩ ⟨sub_of kr kr ⟨iiC_b, inC_b, inC_b, brn, brn, ⟨⟩⟩, te_of kr kr⟩ kr ?_
   rintro m9 s9 ⟨j, rfl, i2_0, rfl⟩ R2_ hR2_
   by_cases hlt_od : j < od.length
   ·skip
    obtain ⟨a2, ha2⟩ : ∃ x_, (od)[j]? = some x_ := ⟨_, List.getElem?_eq_getElem (by omega)⟩
    obtain ⟨qa1, qa2⟩ := valB_iff.1 (hR.od_ j a2 ha2)
    refine sd_run 7 (sdT 108 ((j : Int) < (od.length : Int)) (by omega) kr (sd_run 11 (sd_ix 113 (.pointer (some ⟨1, 0 + j * 1, none⟩)) j od.length kr kr kr (by omega) (sd_ld 114 (.int .i64 a2) 3 (.pointer (some ⟨1, 0 + j * 1, none⟩)) kr kr kr (ld_cell (l := od) (e := 3) (ro := false) (k := j) (j := 0) inC_len kr kr kr ha2 rfl) (sd_run 1 (sdF 115 ((a2 : Int) < 0) (by omega) kr (sd_run 3 ?_)))))))
    refine sd_ix 119 (.pointer (some ⟨1, 0 + j * 1, none⟩)) j od.length kr kr kr (by omega) (sd_ld 120 (.int .i64 a2) 3 (.pointer (some ⟨1, 0 + j * 1, none⟩)) kr kr kr (ld_cell (l := od) (e := 3) (ro := false) (k := j) (j := 0) inC_len kr kr kr ha2 rfl) (sd_run 2 (sdF 122 ((a2 : Int) ≥ (c.length : Int)) (by omega) kr (sd_run 10 (sd_see 110 (.int .i64 ((j + 1 : Nat) : Int)) (see_int (x := (IntKind.i64.wrap ((j : Int) + 1))) kr (w64 (by omega) (by omega) (by omega))) (sd_run 2 ?_))))))
    refine sd_inv R2_ kr (hR2_ _ (od.length - (j + 1)) _ e5_ (by omega) ⟨j + 1, rfl, (by omega), rfl⟩ ⟨sub_of kr kr ⟨iiC_b, inC_b, inC_b, brn, brn, ⟨⟩⟩, te_of kr kr⟩ kr)
   ·skip
    obtain rfl : j = od.length := by omega
    refine sd_run 7 (sdF 108 ((od.length : Int) < (od.length : Int)) (by omega) kr (sd_run 39 ?_))
    refine sd_loop 145 (cl (cl (cr (cr (cl (cl (cr (cr (cl (cl (cr (cl (cr (cr (cr (cr (cr f20b))))))))))))))))) [.blk 6, .blk 5, .next (cr (cr (cr (cl (cl (cr (cl (cr (cr (cr (cr (cr f20b)))))))))))), .loop (cl (cl (cr (cl (cr (cr (cr (cr (cr f20b))))))))), .blk 4, .next (cr (cr (cr (cr (cr (cr f20b))))))] kr kr kr (fun m9 s9 => ∃ (j : Nat), m9 = rd.length - j ∧ (j ≤ rd.length) ∧ s9 = ⟨tmL [(1, .pointer (some ⟨3, 0, none⟩)), (3, .int .i64 (c.length : Int)), (8, (s1 2 rd.length)), (9, .int .i64 (j : Int)), (99, .slice (some ⟨4, 0, none⟩) 2 2), (100, .int .i64 2), (101, .int .i64 1)], hq [(iiCo c false), (inCo od false), (inCo rd false), some ⟨[(s5 0 c.length), .int .i64 nd, .int .i64 nr, .int .i64 hd, .int .i64 hr, (s1 1 od.length), (s1 2 rd.length), .int .i64 fl, .int .u32 nx, .int .i64 tg, .int .i64 br, .int .u32 tk, .int .i64 ct, .int .i64 (c.length : Int)], 29, false⟩, some ⟨[(s1 1 od.length), (s1 2 rd.length)], 22, false⟩]⟩) (rd.length - 0) _ e5_ hX ⟨0, rfl, (by omega), rfl⟩ ⟨sub_of kr kr ⟨iiC_b, inC_b, inC_b, brn, brn, ⟨⟩⟩, te_of kr kr⟩ kr ?_
    rintro m9 s9 ⟨j, rfl, i3_0, rfl⟩ R3_ hR3_
    by_cases hlt_rd : j < rd.length
    ·skip
     obtain ⟨a3, ha3⟩ : ∃ x_, (rd)[j]? = some x_ := ⟨_, List.getElem?_eq_getElem (by omega)⟩
     obtain ⟨qa1, qa2⟩ := valB_iff.1 (hR.rd_ j a3 ha3)
     refine sd_run 7 (sdT 108 ((j : Int) < (rd.length : Int)) (by omega) kr (sd_run 11 (sd_ix 113 (.pointer (some ⟨2, 0 + j * 1, none⟩)) j rd.length kr kr kr (by omega) (sd_ld 114 (.int .i64 a3) 3 (.pointer (some ⟨2, 0 + j * 1, none⟩)) kr kr kr (ld_cell (l := rd) (e := 3) (ro := false) (k := j) (j := 0) inC_len kr kr kr ha3 rfl) (sd_run 1 (sdF 115 ((a3 : Int) < 0) (by omega) kr (sd_run 3 ?_)))))))
     refine sd_ix 119 (.pointer (some ⟨2, 0 + j * 1, none⟩)) j rd.length kr kr kr (by omega) (sd_ld 120 (.int .i64 a3) 3 (.pointer (some ⟨2, 0 + j * 1, none⟩)) kr kr kr (ld_cell (l := rd) (e := 3) (ro := false) (k := j) (j := 0) inC_len kr kr kr ha3 rfl) (sd_run 2 (sdF 122 ((a3 : Int) ≥ (c.length : Int)) (by omega) kr (sd_run 10 (sd_see 110 (.int .i64 ((j + 1 : Nat) : Int)) (see_int (x := (IntKind.i64.wrap ((j : Int) + 1))) kr (w64 (by omega) (by omega) (by omega))) (sd_run 2 ?_))))))
     refine sd_inv R3_ kr (hR3_ _ (rd.length - (j + 1)) _ e5_ (by omega) ⟨j + 1, rfl, (by omega), rfl⟩ ⟨sub_of kr kr ⟨iiC_b, inC_b, inC_b, brn, brn, ⟨⟩⟩, te_of kr kr⟩ kr)
    ·skip
     obtain rfl : j = rd.length := by omega
     refine sd_run 7 (sdF 108 ((rd.length : Int) < (rd.length : Int)) (by omega) kr (sd_run 32 (sdT 127 ((fl : Int) ≥ (-1)) (by omega) kr (sd_run 5 (sdT 132 ((fl : Int) < (c.length : Int)) (by omega) kr (sd_run 5 (sdT 137 ((tg : Int) ≥ (-1)) (by omega) kr ?_)))))))
     refine sd_run 6 (sdT 143 ((tg : Int) < (c.length : Int)) (by omega) kr (sd_run 5 ?_))
     refine sdY (.bool true) hX [(iiCo c false), (inCo od false), (inCo rd false)] i3_ ⟨iiC_b, inC_b, inC_b, ⟨⟩⟩ ⟨rfl, rfl⟩
 ·skip
  refine scall_sd 145 _ 3 kr f20_fn f20_body rfl rfl rfl fun X hX => ?_
  refine sd_run 21 (sdQ 16 (c.length : Int) (c.length : Int) (by omega) kr (sd_run 3 (sdF 19 ((c.length : Int) > 64) (by omega) kr (sd_run 5 (sdF 24 ((ct : Int) < 1) (by omega) kr (sd_run 5 (sdF 29 ((ct : Int) > 8) (by omega) kr ?_)))))))
  refine sd_run 5 (sdP 34 (br : Int) 0 (by omega) kr (sd_run 4 (sdF 38 ((br : Int) < 33) (by omega) kr (sd_run 4 (sdF 42 ((br : Int) > 37) (by omega) kr (sd_run 5 (sdQ 47 (tg : Int) (-1) (by omega) kr ?_)))))))
  refine sd_run 48 (sdF 66 ((nd : Int) < 0) (by omega) kr (sd_run 3 (sdF 69 ((nd : Int) > 16) (by omega) kr (sd_run 35 (sdF 66 ((nr : Int) < 0) (by omega) kr (sd_run 3 (sdF 69 ((nr : Int) > 16) (by omega) kr ?_)))))))
  refine sd_run 35 (sdF 66 ((hd : Int) < 0) (by omega) kr (sd_run 3 (sdF 69 ((hd : Int) > 16) (by omega) kr (sd_run 35 (sdF 66 ((hr : Int) < 0) (by omega) kr (sd_run 3 (sdF 69 ((hr : Int) > 16) (by omega) kr ?_)))))))
  refine sd_run 32 ?_
  refine sd_loop 145 (cl (cl (cr (cl (cr (cr (cr (cr f20b)))))))) [.blk 2, .next (cr (cr (cr (cr (cr f20b)))))] kr kr kr (fun m9 s9 => ∃ (k : Nat), m9 = c.length - k ∧ (k ≤ c.length) ∧ s9 = ⟨tmL [(1, .pointer (some ⟨3, 0, none⟩)), (3, .int .i64 (c.length : Int)), (6, .int .i64 (k : Int))], hq [(iiCo c false), (inCo od false), (inCo rd false), some ⟨[(s5 0 c.length), .int .i64 nd, .int .i64 nr, .int .i64 hd, .int .i64 hr, (s1 1 od.length), (s1 2 rd.length), .int .i64 fl, .int .u32 nx, .int .i64 tg, .int .i64 br, .int .u32 tk, .int .i64 ct, .int .i64 (c.length : Int)], 29, false⟩]⟩) (c.length - 0) _ e4_ hX ⟨0, rfl, (by omega), rfl⟩ ⟨sub_of kr kr ⟨iiC_b, inC_b, inC_b, brn, ⟨⟩⟩, te_of kr kr⟩ kr ?_
  rintro m9 s9 ⟨k, rfl, i4_0, rfl⟩ R4_ hR4_
  by_cases hlt : k < c.length
  ·skip
   obtain ⟨a4, ha4⟩ : ∃ x_, (c)[k]? = some x_ := ⟨_, List.getElem?_eq_getElem (by omega)⟩
   have ia4 := hi _ (List.mem_of_getElem? ha4)
   have hdst := made_dst (hR.code k a4 ha4)
   refine sd_run 6 (sdT 74 ((k : Int) < (c.length : Int)) (by omega) kr (sd_run 12 (sd_ix 80 (.pointer (some ⟨0, 0 + k * 5, none⟩)) k c.length kr kr kr (by omega) (sd_run 1 (sd_ld 82 (.int .i64 a4.2.1) 3 (.pointer (some ⟨0, 0 + k * 5 + 1, none⟩)) kr kr kr (ld_cell (l := c) (e := 61) (ro := false) (k := k) (j := 1) iiC_len kr kr kr ha4 rfl) (sd_run 2 (sd_see 84 (.bool false) (see_bool kr ((bne_eq_false_iff_eq.2 hdst) : ((a4.2.1 : Int) != (k : Int)) = false)) ?_)))))))
   refine sd_run 5 (sd_ix 90 (.pointer (some ⟨0, 0 + k * 5, none⟩)) k c.length kr kr kr (by omega) (sd_ld 91 (.agg #[.int .i64 a4.1, .int .i64 a4.2.1, .int .i64 a4.2.2.1, .int .i64 a4.2.2.2.1, .int .u32 a4.2.2.2.2]) 61 (.pointer (some ⟨0, 0 + k * 5, none⟩)) kr kr kr (ld_row (l := c) (e := 61) (ro := false) (k := k) iiC_len kr kr kr ha4) (sdCp 92 40 #[(pgV (s5 0 c.length) nd nr hd hr (s1 1 od.length) (s1 2 rd.length) fl nx tg br tk ct (c.length : Int)), .agg #[.int .i64 a4.1, .int .i64 a4.2.1, .int .i64 a4.2.2.1, .int .i64 a4.2.2.2.1, .int .u32 a4.2.2.2.2]] (@rr1_s c od rd nd nr hd hr fl nx tg br tk ct (c.length : Int) a4.1 a4.2.1 a4.2.2.1 a4.2.2.2.1 a4.2.2.2.2 (by have q := hR.code k a4 ha4; rw [← hdst] at q; exact q) ia4 hR.nd_ hR.nr_) i3_ ⟨iiC_b, inC_b, inC_b, ⟨⟩⟩ ?_)))
   rintro v9 k9 ⟨rfl, rfl⟩
   refine ⟨rfl, .bool true, kr, ?_⟩
   refine sd_run 11 (sd_see 76 (.int .i64 ((k + 1 : Nat) : Int)) (see_int (x := (IntKind.i64.wrap ((k : Int) + 1))) kr (w64 (by omega) (by omega) (by omega))) (sd_run 2 ?_))
   refine sd_inv R4_ kr (hR4_ _ (c.length - (k + 1)) _ e4_ (by omega) ⟨k + 1, rfl, (by omega), rfl⟩ ⟨sub_of kr kr ⟨iiC_b, inC_b, inC_b, brn, ⟨⟩⟩, te_of kr kr⟩ kr)
  ·skip
   obtain rfl : k = c.length := by omega
   refine sd_run 6 (sdF 74 ((c.length : Int) < (c.length : Int)) (by omega) kr (sd_run 46 ?_))
   refine sd_loop 145 (cl (cl (cr (cr (cl (cl (cr (cr (cl (cl (cr (cl (cr (cr (cr (cr (cr f20b))))))))))))))))) [.blk 6, .blk 5, .next (cr (cr (cr (cl (cl (cr (cl (cr (cr (cr (cr (cr f20b)))))))))))), .loop (cl (cl (cr (cl (cr (cr (cr (cr (cr f20b))))))))), .blk 4, .next (cr (cr (cr (cr (cr (cr f20b))))))] kr kr kr (fun m9 s9 => ∃ (j : Nat), m9 = od.length - j ∧ (j ≤ od.length) ∧ s9 = ⟨tmL [(1, .pointer (some ⟨3, 0, none⟩)), (3, .int .i64 (c.length : Int)), (8, (s1 1 od.length)), (9, .int .i64 (j : Int)), (99, .slice (some ⟨4, 0, none⟩) 2 2), (100, .int .i64 2), (101, .int .i64 0)], hq [(iiCo c false), (inCo od false), (inCo rd false), some ⟨[(s5 0 c.length), .int .i64 nd, .int .i64 nr, .int .i64 hd, .int .i64 hr, (s1 1 od.length), (s1 2 rd.length), .int .i64 fl, .int .u32 nx, .int .i64 tg, .int .i64 br, .int .u32 tk, .int .i64 ct, .int .i64 (c.length : Int)], 29, false⟩, some ⟨[(s1 1 od.length), (s1 2 rd.length)], 22, false⟩]⟩) (od.length - 0) _ e5_ hX ⟨0, rfl, (by omega), rfl⟩ ⟨sub_of kr kr ⟨iiC_b, inC_b, inC_b, brn, brn, ⟨⟩⟩, te_of kr kr⟩ kr ?_
   rintro m9 s9 ⟨j, rfl, i5_0, rfl⟩ R5_ hR5_
   by_cases hlt_od : j < od.length
   ·skip
    obtain ⟨a5, ha5⟩ : ∃ x_, (od)[j]? = some x_ := ⟨_, List.getElem?_eq_getElem (by omega)⟩
    obtain ⟨qa1, qa2⟩ := valB_iff.1 (hR.od_ j a5 ha5)
    refine sd_run 7 (sdT 108 ((j : Int) < (od.length : Int)) (by omega) kr (sd_run 11 (sd_ix 113 (.pointer (some ⟨1, 0 + j * 1, none⟩)) j od.length kr kr kr (by omega) (sd_ld 114 (.int .i64 a5) 3 (.pointer (some ⟨1, 0 + j * 1, none⟩)) kr kr kr (ld_cell (l := od) (e := 3) (ro := false) (k := j) (j := 0) inC_len kr kr kr ha5 rfl) (sd_run 1 (sdF 115 ((a5 : Int) < 0) (by omega) kr (sd_run 3 ?_)))))))
    refine sd_ix 119 (.pointer (some ⟨1, 0 + j * 1, none⟩)) j od.length kr kr kr (by omega) (sd_ld 120 (.int .i64 a5) 3 (.pointer (some ⟨1, 0 + j * 1, none⟩)) kr kr kr (ld_cell (l := od) (e := 3) (ro := false) (k := j) (j := 0) inC_len kr kr kr ha5 rfl) (sd_run 2 (sdF 122 ((a5 : Int) ≥ (c.length : Int)) (by omega) kr (sd_run 10 (sd_see 110 (.int .i64 ((j + 1 : Nat) : Int)) (see_int (x := (IntKind.i64.wrap ((j : Int) + 1))) kr (w64 (by omega) (by omega) (by omega))) (sd_run 2 ?_))))))
    refine sd_inv R5_ kr (hR5_ _ (od.length - (j + 1)) _ e5_ (by omega) ⟨j + 1, rfl, (by omega), rfl⟩ ⟨sub_of kr kr ⟨iiC_b, inC_b, inC_b, brn, brn, ⟨⟩⟩, te_of kr kr⟩ kr)
   ·skip
    obtain rfl : j = od.length := by omega
    refine sd_run 7 (sdF 108 ((od.length : Int) < (od.length : Int)) (by omega) kr (sd_run 39 ?_))
    refine sd_loop 145 (cl (cl (cr (cr (cl (cl (cr (cr (cl (cl (cr (cl (cr (cr (cr (cr (cr f20b))))))))))))))))) [.blk 6, .blk 5, .next (cr (cr (cr (cl (cl (cr (cl (cr (cr (cr (cr (cr f20b)))))))))))), .loop (cl (cl (cr (cl (cr (cr (cr (cr (cr f20b))))))))), .blk 4, .next (cr (cr (cr (cr (cr (cr f20b))))))] kr kr kr (fun m9 s9 => ∃ (j : Nat), m9 = rd.length - j ∧ (j ≤ rd.length) ∧ s9 = ⟨tmL [(1, .pointer (some ⟨3, 0, none⟩)), (3, .int .i64 (c.length : Int)), (8, (s1 2 rd.length)), (9, .int .i64 (j : Int)), (99, .slice (some ⟨4, 0, none⟩) 2 2), (100, .int .i64 2), (101, .int .i64 1)], hq [(iiCo c false), (inCo od false), (inCo rd false), some ⟨[(s5 0 c.length), .int .i64 nd, .int .i64 nr, .int .i64 hd, .int .i64 hr, (s1 1 od.length), (s1 2 rd.length), .int .i64 fl, .int .u32 nx, .int .i64 tg, .int .i64 br, .int .u32 tk, .int .i64 ct, .int .i64 (c.length : Int)], 29, false⟩, some ⟨[(s1 1 od.length), (s1 2 rd.length)], 22, false⟩]⟩) (rd.length - 0) _ e5_ hX ⟨0, rfl, (by omega), rfl⟩ ⟨sub_of kr kr ⟨iiC_b, inC_b, inC_b, brn, brn, ⟨⟩⟩, te_of kr kr⟩ kr ?_
    rintro m9 s9 ⟨j, rfl, i6_0, rfl⟩ R6_ hR6_
    by_cases hlt_rd : j < rd.length
    ·skip
     obtain ⟨a6, ha6⟩ : ∃ x_, (rd)[j]? = some x_ := ⟨_, List.getElem?_eq_getElem (by omega)⟩
     obtain ⟨qa1, qa2⟩ := valB_iff.1 (hR.rd_ j a6 ha6)
     refine sd_run 7 (sdT 108 ((j : Int) < (rd.length : Int)) (by omega) kr (sd_run 11 (sd_ix 113 (.pointer (some ⟨2, 0 + j * 1, none⟩)) j rd.length kr kr kr (by omega) (sd_ld 114 (.int .i64 a6) 3 (.pointer (some ⟨2, 0 + j * 1, none⟩)) kr kr kr (ld_cell (l := rd) (e := 3) (ro := false) (k := j) (j := 0) inC_len kr kr kr ha6 rfl) (sd_run 1 (sdF 115 ((a6 : Int) < 0) (by omega) kr (sd_run 3 ?_)))))))
     refine sd_ix 119 (.pointer (some ⟨2, 0 + j * 1, none⟩)) j rd.length kr kr kr (by omega) (sd_ld 120 (.int .i64 a6) 3 (.pointer (some ⟨2, 0 + j * 1, none⟩)) kr kr kr (ld_cell (l := rd) (e := 3) (ro := false) (k := j) (j := 0) inC_len kr kr kr ha6 rfl) (sd_run 2 (sdF 122 ((a6 : Int) ≥ (c.length : Int)) (by omega) kr (sd_run 10 (sd_see 110 (.int .i64 ((j + 1 : Nat) : Int)) (see_int (x := (IntKind.i64.wrap ((j : Int) + 1))) kr (w64 (by omega) (by omega) (by omega))) (sd_run 2 ?_))))))
     refine sd_inv R6_ kr (hR6_ _ (rd.length - (j + 1)) _ e5_ (by omega) ⟨j + 1, rfl, (by omega), rfl⟩ ⟨sub_of kr kr ⟨iiC_b, inC_b, inC_b, brn, brn, ⟨⟩⟩, te_of kr kr⟩ kr)
    ·skip
     obtain rfl : j = rd.length := by omega
     refine sd_run 7 (sdF 108 ((rd.length : Int) < (rd.length : Int)) (by omega) kr (sd_run 32 (sdT 127 ((fl : Int) ≥ (-1)) (by omega) kr (sd_run 5 (sdT 132 ((fl : Int) < (c.length : Int)) (by omega) kr (sd_run 5 (sdT 137 ((tg : Int) ≥ (-1)) (by omega) kr ?_)))))))
     refine sd_run 6 (sdT 143 ((tg : Int) < (c.length : Int)) (by omega) kr (sd_run 5 ?_))
     refine sdY (.bool true) hX [(iiCo c false), (inCo od false), (inCo rd false)] i3_ ⟨iiC_b, inC_b, inC_b, ⟨⟩⟩ ⟨rfl, rfl⟩
end Ls
end Go.Proofs.Ytegjicaoemhhlaa
