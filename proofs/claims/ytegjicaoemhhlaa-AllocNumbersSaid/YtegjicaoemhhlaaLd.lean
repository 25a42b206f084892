/- Chapter 21: the document: a plan that is made is right. -/
import Derived.Test.YtegjicaoemhhlaaJr
import Derived.Test.YtegjicaoemhhlaaLc
namespace Go.Proofs.Ytegjicaoemhhlaa
open Go Go.Ev Go.RowKit
set_option linter.unusedVariables false
set_option linter.unusedSimpArgs false
set_option maxRecDepth 100000
namespace Ls
noncomputable def f21b : Code := Try.f21.body.getD .skip
theorem f21_body : Try.f21.body = some f21b := by kernel_rfl
theorem f21_fn : T16.fn 21 = some Try.f21 := by kernel_rfl
set_option maxHeartbeats 2000000 in
theorem right21_s {c : List II} {od rd : List Int} {nd nr hd hr fl nx tg br tk ct : Int} {rg sl : List Int} {slots : Int} {k kc kd : Nat} (hR : RightP c od rd nd nr hd hr fl tg br ct (c.length : Int)) (hcl : c.length < 100000) (hol : od.length < 100000) (hrl : rd.length < 100000) (hi : ∀ x ∈ c, 0 ≤ x.2.2.2.2 ∧ x.2.2.2.2 < 4294967296) (hk : 1 ≤ k ∧ k ≤ 16) (hP : PlanN (ofL c od rd fl tg) k c.length rg sl slots) : SCall Try.prog T16 21 #[(pgV (s5 0 c.length) nd nr hd hr (s1 1 od.length) (s1 2 rd.length) fl nx tg br tk ct (c.length : Int)), .slice (some ⟨3, 0, none⟩) c.length kc, .slice (some ⟨4, 0, none⟩) c.length kd, .int .i64 slots, .int .i64 (k : Int)] (hq [(iiCo c false), (inCo od false), (inCo rd false), (inCo rg false), (inCo sl false)]) fun v h => v = .bool true ∧ h = hq [(iiCo c false), (inCo od false), (inCo rd false), (inCo rg false), (inCo sl false)] := by
 have hlen := hR.len
 have hrg : rg.length = c.length := by rw [hP.lr, ofL_len]
 have hsl : sl.length = c.length := by rw [hP.ls, ofL_len]
 have hs0 := hP.s0
 refine scall_sd 142 _ 5 kr f21_fn f21_body rfl rfl rfl fun X hX => ?_
 refine sd_run 9 (sdC 15 16 #[(pgV (s5 0 c.length) nd nr hd hr (s1 1 od.length) (s1 2 rd.length) fl nx tg br tk ct (c.length : Int))] (@of20_s c od rd nd nr hd hr fl nx tg br tk ct hR hcl hol hrl hi) i3_ ⟨iiC_b, inC_b, inC_b, ⟨⟩⟩ ?_)
 rintro hn9 v9 k9 ⟨rfl, rfl⟩
 refine mkG (.slice (some ⟨6, 0, none⟩) c.length (unk + 3)) [(iiCo c false), (inCo od false), (inCo rd false), (inCo rg false), (inCo sl false), some ⟨[(s5 0 c.length), .int .i64 nd, .int .i64 nr, .int .i64 hd, .int .i64 hr, (s1 1 od.length), (s1 2 rd.length), .int .i64 fl, .int .u32 nx, .int .i64 tg, .int .i64 br, .int .u32 tk, .int .i64 ct, .int .i64 (c.length : Int)], 29, false⟩, some ⟨(tab ivC (ofL c od rd fl tg)), 53, false⟩] ⟨cvs 0 hn9, cvs 1 hn9, cvs 2 hn9, cvo, cvo, cvo, ivC_c 3, ⟨⟩⟩ ?_
 refine sd_run 7 (sdCp 17 20 #[(pgV (s5 0 c.length) nd nr hd hr (s1 1 od.length) (s1 2 rd.length) fl nx tg br tk ct (c.length : Int))] (@rright_s c od rd nd nr hd hr fl nx tg br tk ct hR hol hrl hi) i3_ ⟨iiC_b, inC_b, inC_b, ⟨⟩⟩ ?_)
 rintro v9 k9 ⟨rfl, rfl⟩
 refine ⟨rfl, .bool true, kr, ?_⟩
 refine sd_run 4 (sdF 21 ((k : Int) < 1) (by omega) kr (sd_run 4 (sdF 25 ((k : Int) > 16) (by omega) kr (sd_run 7 (sdQ 32 (c.length : Int) (c.length : Int) (by omega) kr (sd_run 7 (sdQ 39 (c.length : Int) (c.length : Int) (by omega) kr ?_)))))))
 refine sd_run 4 (sdF 43 ((slots : Int) < 0) (by omega) kr (sd_run 13 ?_))
 refine sd_loop 142 (cl (cl (cr (cl (cr (cr (cr f21b))))))) [.blk 0, .next (cr (cr (cr (cr f21b))))] kr kr kr (fun m9 s9 => ∃ (i : Nat), m9 = c.length - i ∧ (i ≤ c.length) ∧ s9 = ⟨tmL [(1, .slice (some ⟨3, 0, none⟩) c.length kc), (2, .slice (some ⟨4, 0, none⟩) c.length kd), (3, .int .i64 slots), (4, .int .i64 (k : Int)), (11, .slice (some ⟨6, 0, none⟩) c.length (unk + 3)), (12, .int .i64 (i : Int))], hq [(iiCo c false), (inCo od false), (inCo rd false), (inCo rg false), (inCo sl false), none, some ⟨(tab ivC (ofL c od rd fl tg)), 53, false⟩]⟩) (c.length - 0) _ (emOf [some 0, some 1, some 2, some 3, some 4, none, some 6]) hX ⟨0, rfl, (by omega), rfl⟩ ⟨sub_of kr kr ⟨iiC_b, inC_b, inC_b, inC_b, inC_b, ivC_b, ⟨⟩⟩, te_of kr kr⟩ kr ?_
 rintro m9 s9 ⟨i, rfl, i1_0, rfl⟩ R1_ hR1_
 by_cases hlt : i < c.length
 ·skip
  obtain ⟨a1, ha1⟩ : ∃ x_, (rg)[i]? = some x_ := ⟨_, List.getElem?_eq_getElem (by omega)⟩
  obtain ⟨a2, ha2⟩ : ∃ x_, (sl)[i]? = some x_ := ⟨_, List.getElem?_eq_getElem (by omega)⟩
  rcases hP.place i _ _ hlt ha1 ha2 with hpl | hpl
  ·skip
   refine sd_run 7 (sdT 48 ((i : Int) < (c.length : Int)) (by omega) kr (sd_run 12 (sd_ix 53 (.pointer (some ⟨3, 0 + i * 1, none⟩)) i c.length kr kr kr (by omega) (sd_ld 54 (.int .i64 a1) 3 (.pointer (some ⟨3, 0 + i * 1, none⟩)) kr kr kr (ld_cell (l := rg) (e := 3) (ro := false) (k := i) (j := 0) inC_len kr kr kr ha1 rfl) (sd_run 1 (sd_see 55 (.bool false) (see_bool (x := ((a1 : Int) == (-1))) kr (beq_eq_false_iff_ne.2 (by omega))) (sd_run 2 ?_)))))))
   refine sd_ix 58 (.pointer (some ⟨4, 0 + i * 1, none⟩)) i c.length kr kr kr (by omega) (sd_ld 59 (.int .i64 a2) 3 (.pointer (some ⟨4, 0 + i * 1, none⟩)) kr kr kr (ld_cell (l := sl) (e := 3) (ro := false) (k := i) (j := 0) inC_len kr kr kr ha2 rfl) (sd_run 1 (sd_see 60 (.bool true) (see_bool (x := ((a2 : Int) == (-1))) kr (beq_iff_eq.2 (by omega))) (sd_run 4 (sd_ix 65 (.pointer (some ⟨3, 0 + i * 1, none⟩)) i c.length kr kr kr (by omega) (sd_ld 66 (.int .i64 a1) 3 (.pointer (some ⟨3, 0 + i * 1, none⟩)) kr kr kr (ld_cell (l := rg) (e := 3) (ro := false) (k := i) (j := 0) inC_len kr kr kr ha1 rfl) (sd_run 1 ?_)))))))
   refine sd_see 67 (.bool false) (see_bool (x := (decide ((a1 : Int) < (-1)))) kr (decide_eq_false (by omega))) (sd_run 4 (sd_ix 72 (.pointer (some ⟨4, 0 + i * 1, none⟩)) i c.length kr kr kr (by omega) (sd_ld 73 (.int .i64 a2) 3 (.pointer (some ⟨4, 0 + i * 1, none⟩)) kr kr kr (ld_cell (l := sl) (e := 3) (ro := false) (k := i) (j := 0) inC_len kr kr kr ha2 rfl) (sd_run 1 (sd_see 74 (.bool false) (see_bool (x := (decide ((a2 : Int) < (-1)))) kr (decide_eq_false (by omega))) (sd_run 4 (sd_ix 79 (.pointer (some ⟨3, 0 + i * 1, none⟩)) i c.length kr kr kr (by omega) ?_)))))))
   refine sd_ld 80 (.int .i64 a1) 3 (.pointer (some ⟨3, 0 + i * 1, none⟩)) kr kr kr (ld_cell (l := rg) (e := 3) (ro := false) (k := i) (j := 0) inC_len kr kr kr ha1 rfl) (sd_run 2 (sd_see 82 (.bool false) (see_bool (x := (decide ((a1 : Int) ≥ (k : Int)))) kr (decide_eq_false (by omega))) (sd_run 4 (sd_ix 87 (.pointer (some ⟨4, 0 + i * 1, none⟩)) i c.length kr kr kr (by omega) (sd_ld 88 (.int .i64 a2) 3 (.pointer (some ⟨4, 0 + i * 1, none⟩)) kr kr kr (ld_cell (l := sl) (e := 3) (ro := false) (k := i) (j := 0) inC_len kr kr kr ha2 rfl) (sd_run 2 (sd_see 90 (.bool false) (see_bool (x := (decide ((a2 : Int) ≥ slots))) kr (decide_eq_false (by omega))) ?_)))))))
   refine sd_run 12 ?_
   refine sd_loop 142 (cl (cl (cr (cr (cl (cl (cr (cl (cl (cr (cl (cr (cr (cr f21b)))))))))))))) [.blk 2, .blk 1, .next (cr (cr (cl (cl (cr (cl (cr (cr (cr f21b))))))))), .inv R1_, .blk 0, .next (cr (cr (cr (cr f21b))))] kr kr kr (fun m9 s9 => ∃ (j : Nat), m9 = i - j ∧ (j ≤ i) ∧ s9 = ⟨tmL [(1, .slice (some ⟨3, 0, none⟩) c.length kc), (2, .slice (some ⟨4, 0, none⟩) c.length kd), (3, .int .i64 slots), (4, .int .i64 (k : Int)), (11, .slice (some ⟨6, 0, none⟩) c.length (unk + 3)), (12, .int .i64 (i : Int)), (13, .int .i64 (j : Int))], hq [(iiCo c false), (inCo od false), (inCo rd false), (inCo rg false), (inCo sl false), none, some ⟨(tab ivC (ofL c od rd fl tg)), 53, false⟩]⟩) (i - 0) _ (emOf [some 0, some 1, some 2, some 3, some 4, none, some 6]) hX ⟨0, rfl, (by omega), rfl⟩ ⟨sub_of kr kr ⟨iiC_b, inC_b, inC_b, inC_b, inC_b, ivC_b, ⟨⟩⟩, te_of kr kr⟩ kr ?_
   rintro m9 s9 ⟨j, rfl, i2_0, rfl⟩ R2_ hR2_
   by_cases hj : j < i
   ·skip
    obtain ⟨a3, ha3⟩ : ∃ x_, (ofL c od rd fl tg)[i]? = some x_ := ⟨_, List.getElem?_eq_getElem (by rw [ofL_len]; omega)⟩
    obtain ⟨a4, ha4⟩ : ∃ x_, (ofL c od rd fl tg)[j]? = some x_ := ⟨_, List.getElem?_eq_getElem (by rw [ofL_len]; omega)⟩
    obtain ⟨a5, ha5⟩ : ∃ x_, (rg)[j]? = some x_ := ⟨_, List.getElem?_eq_getElem (by omega)⟩
    obtain ⟨a6, ha6⟩ : ∃ x_, (sl)[j]? = some x_ := ⟨_, List.getElem?_eq_getElem (by omega)⟩
    rcases Bool.eq_false_or_eq_true (meetB (a3.1, a3.2.1, a3.2.2) (a4.1, a4.2.1, a4.2.2)) with hmt | hmt
    ·skip
     have hm8 : meetB a3 a4 = true := hmt
     have hne : ¬ a1 = a5 := fun e => by have h9 := hP.apR j i a1 hj hlt (by rw [e]; exact ha5) ha1 (by omega); rw [meetN_at ha4 ha3, meet_comm, hm8] at h9; cases h9
     refine sd_run 6 (sdT 94 ((j : Int) < (i : Int)) (by omega) kr (sd_run 11 (sd_ix 99 (.pointer (some ⟨6, 0 + i * 3, none⟩)) i c.length kr kr kr (by omega) (sd_ld 100 (.agg #[.int .i64 a3.1, .int .i64 a3.2.1, .int .i64 a3.2.2]) 53 (.pointer (some ⟨6, 0 + i * 3, none⟩)) kr kr kr (ld_row (l := (ofL c od rd fl tg)) (e := 53) (ro := false) (k := i) ivC_len kr kr kr ha3) (sd_run 2 (sd_ix 103 (.pointer (some ⟨6, 0 + j * 3, none⟩)) j c.length kr kr kr (by omega) (sd_ld 104 (.agg #[.int .i64 a4.1, .int .i64 a4.2.1, .int .i64 a4.2.2]) 53 (.pointer (some ⟨6, 0 + j * 3, none⟩)) kr kr kr (ld_row (l := (ofL c od rd fl tg)) (e := 53) (ro := false) (k := j) ivC_len kr kr kr ha4) ?_)))))))
     refine sdCp 105 18 #[.agg #[.int .i64 a3.1, .int .i64 a3.2.1, .int .i64 a3.2.2], .agg #[.int .i64 a4.1, .int .i64 a4.2.1, .int .i64 a4.2.2]] (@meetR_s a3.1 a3.2.1 a3.2.2 a4.1 a4.2.1 a4.2.2 ) [] True.intro ?_
     rintro v9 k9 ⟨rfl, rfl⟩
     refine ⟨rfl, .bool (meetB (a3.1, a3.2.1, a3.2.2) (a4.1, a4.2.1, a4.2.2)), kr, ?_⟩
     refine sd_see 105 (.bool true) (see_bool kr hmt) (sd_run 3 (sd_ix 109 (.pointer (some ⟨3, 0 + i * 1, none⟩)) i c.length kr kr kr (by omega) (sd_ld 110 (.int .i64 a1) 3 (.pointer (some ⟨3, 0 + i * 1, none⟩)) kr kr kr (ld_cell (l := rg) (e := 3) (ro := false) (k := i) (j := 0) inC_len kr kr kr ha1 rfl) (sd_run 1 (sd_see 111 (.bool true) (see_bool (x := (decide ((a1 : Int) ≥ 0))) kr (decide_eq_true (by omega))) (sd_run 3 (sd_ix 115 (.pointer (some ⟨3, 0 + i * 1, none⟩)) i c.length kr kr kr (by omega) ?_)))))))
     refine sd_ld 116 (.int .i64 a1) 3 (.pointer (some ⟨3, 0 + i * 1, none⟩)) kr kr kr (ld_cell (l := rg) (e := 3) (ro := false) (k := i) (j := 0) inC_len kr kr kr ha1 rfl) (sd_run 2 (sd_ix 119 (.pointer (some ⟨3, 0 + j * 1, none⟩)) j c.length kr kr kr (by omega) (sd_ld 120 (.int .i64 a5) 3 (.pointer (some ⟨3, 0 + j * 1, none⟩)) kr kr kr (ld_cell (l := rg) (e := 3) (ro := false) (k := j) (j := 0) inC_len kr kr kr ha5 rfl) (sd_run 1 (sd_see 121 (.bool false) (see_bool (x := ((a1 : Int) == a5)) kr (beq_eq_false_iff_ne.2 hne)) (sd_run 4 (sd_ix 126 (.pointer (some ⟨4, 0 + i * 1, none⟩)) i c.length kr kr kr (by omega) ?_)))))))
     refine sd_ld 127 (.int .i64 a2) 3 (.pointer (some ⟨4, 0 + i * 1, none⟩)) kr kr kr (ld_cell (l := sl) (e := 3) (ro := false) (k := i) (j := 0) inC_len kr kr kr ha2 rfl) (sd_run 1 (sd_see 128 (.bool false) (see_bool (x := (decide ((a2 : Int) ≥ 0))) kr (decide_eq_false (by omega))) (sd_run 22 (sd_see 96 (.int .i64 ((j + 1 : Nat) : Int)) (see_int (x := (IntKind.i64.wrap ((j : Int) + 1))) kr (w64 (by omega) (by omega) (by omega))) (sd_run 2 ?_)))))
     refine sd_inv R2_ kr (hR2_ _ (i - (j + 1)) _ (emOf [some 0, some 1, some 2, some 3, some 4, none, some 6]) (by omega) ⟨j + 1, rfl, (by omega), rfl⟩ ⟨sub_of kr kr ⟨iiC_b, inC_b, inC_b, inC_b, inC_b, ivC_b, ⟨⟩⟩, te_of kr kr⟩ kr)
    ·skip
     refine sd_run 6 (sdT 94 ((j : Int) < (i : Int)) (by omega) kr (sd_run 11 (sd_ix 99 (.pointer (some ⟨6, 0 + i * 3, none⟩)) i c.length kr kr kr (by omega) (sd_ld 100 (.agg #[.int .i64 a3.1, .int .i64 a3.2.1, .int .i64 a3.2.2]) 53 (.pointer (some ⟨6, 0 + i * 3, none⟩)) kr kr kr (ld_row (l := (ofL c od rd fl tg)) (e := 53) (ro := false) (k := i) ivC_len kr kr kr ha3) (sd_run 2 (sd_ix 103 (.pointer (some ⟨6, 0 + j * 3, none⟩)) j c.length kr kr kr (by omega) (sd_ld 104 (.agg #[.int .i64 a4.1, .int .i64 a4.2.1, .int .i64 a4.2.2]) 53 (.pointer (some ⟨6, 0 + j * 3, none⟩)) kr kr kr (ld_row (l := (ofL c od rd fl tg)) (e := 53) (ro := false) (k := j) ivC_len kr kr kr ha4) ?_)))))))
     refine sdCp 105 18 #[.agg #[.int .i64 a3.1, .int .i64 a3.2.1, .int .i64 a3.2.2], .agg #[.int .i64 a4.1, .int .i64 a4.2.1, .int .i64 a4.2.2]] (@meetR_s a3.1 a3.2.1 a3.2.2 a4.1 a4.2.1 a4.2.2 ) [] True.intro ?_
     rintro v9 k9 ⟨rfl, rfl⟩
     refine ⟨rfl, .bool (meetB (a3.1, a3.2.1, a3.2.2) (a4.1, a4.2.1, a4.2.2)), kr, ?_⟩
     refine sd_see 105 (.bool false) (see_bool kr hmt) (sd_run 45 (sd_see 96 (.int .i64 ((j + 1 : Nat) : Int)) (see_int (x := (IntKind.i64.wrap ((j : Int) + 1))) kr (w64 (by omega) (by omega) (by omega))) (sd_run 2 ?_)))
     refine sd_inv R2_ kr (hR2_ _ (i - (j + 1)) _ (emOf [some 0, some 1, some 2, some 3, some 4, none, some 6]) (by omega) ⟨j + 1, rfl, (by omega), rfl⟩ ⟨sub_of kr kr ⟨iiC_b, inC_b, inC_b, inC_b, inC_b, ivC_b, ⟨⟩⟩, te_of kr kr⟩ kr)
   ·skip
    obtain rfl : i = j := by omega
    refine sd_run 6 (sdF 94 ((i : Int) < (i : Int)) (by omega) kr (sd_run 12 (sd_see 50 (.int .i64 ((i + 1 : Nat) : Int)) (see_int (x := (IntKind.i64.wrap ((i : Int) + 1))) kr (w64 (by omega) (by omega) (by omega))) (sd_run 2 ?_))))
    refine sd_inv R1_ kr (hR1_ _ (c.length - (i + 1)) _ (emOf [some 0, some 1, some 2, some 3, some 4, none, some 6]) (by omega) ⟨i + 1, rfl, (by omega), rfl⟩ ⟨sub_of kr kr ⟨iiC_b, inC_b, inC_b, inC_b, inC_b, ivC_b, ⟨⟩⟩, te_of kr kr⟩ kr)
  ·skip
   refine sd_run 7 (sdT 48 ((i : Int) < (c.length : Int)) (by omega) kr (sd_run 12 (sd_ix 53 (.pointer (some ⟨3, 0 + i * 1, none⟩)) i c.length kr kr kr (by omega) (sd_ld 54 (.int .i64 a1) 3 (.pointer (some ⟨3, 0 + i * 1, none⟩)) kr kr kr (ld_cell (l := rg) (e := 3) (ro := false) (k := i) (j := 0) inC_len kr kr kr ha1 rfl) (sd_run 1 (sd_see 55 (.bool true) (see_bool (x := ((a1 : Int) == (-1))) kr (beq_iff_eq.2 (by omega))) (sd_run 2 ?_)))))))
   refine sd_ix 58 (.pointer (some ⟨4, 0 + i * 1, none⟩)) i c.length kr kr kr (by omega) (sd_ld 59 (.int .i64 a2) 3 (.pointer (some ⟨4, 0 + i * 1, none⟩)) kr kr kr (ld_cell (l := sl) (e := 3) (ro := false) (k := i) (j := 0) inC_len kr kr kr ha2 rfl) (sd_run 1 (sd_see 60 (.bool false) (see_bool (x := ((a2 : Int) == (-1))) kr (beq_eq_false_iff_ne.2 (by omega))) (sd_run 4 (sd_ix 65 (.pointer (some ⟨3, 0 + i * 1, none⟩)) i c.length kr kr kr (by omega) (sd_ld 66 (.int .i64 a1) 3 (.pointer (some ⟨3, 0 + i * 1, none⟩)) kr kr kr (ld_cell (l := rg) (e := 3) (ro := false) (k := i) (j := 0) inC_len kr kr kr ha1 rfl) (sd_run 1 ?_)))))))
   refine sd_see 67 (.bool false) (see_bool (x := (decide ((a1 : Int) < (-1)))) kr (decide_eq_false (by omega))) (sd_run 4 (sd_ix 72 (.pointer (some ⟨4, 0 + i * 1, none⟩)) i c.length kr kr kr (by omega) (sd_ld 73 (.int .i64 a2) 3 (.pointer (some ⟨4, 0 + i * 1, none⟩)) kr kr kr (ld_cell (l := sl) (e := 3) (ro := false) (k := i) (j := 0) inC_len kr kr kr ha2 rfl) (sd_run 1 (sd_see 74 (.bool false) (see_bool (x := (decide ((a2 : Int) < (-1)))) kr (decide_eq_false (by omega))) (sd_run 4 (sd_ix 79 (.pointer (some ⟨3, 0 + i * 1, none⟩)) i c.length kr kr kr (by omega) ?_)))))))
   refine sd_ld 80 (.int .i64 a1) 3 (.pointer (some ⟨3, 0 + i * 1, none⟩)) kr kr kr (ld_cell (l := rg) (e := 3) (ro := false) (k := i) (j := 0) inC_len kr kr kr ha1 rfl) (sd_run 2 (sd_see 82 (.bool false) (see_bool (x := (decide ((a1 : Int) ≥ (k : Int)))) kr (decide_eq_false (by omega))) (sd_run 4 (sd_ix 87 (.pointer (some ⟨4, 0 + i * 1, none⟩)) i c.length kr kr kr (by omega) (sd_ld 88 (.int .i64 a2) 3 (.pointer (some ⟨4, 0 + i * 1, none⟩)) kr kr kr (ld_cell (l := sl) (e := 3) (ro := false) (k := i) (j := 0) inC_len kr kr kr ha2 rfl) (sd_run 2 (sd_see 90 (.bool false) (see_bool (x := (decide ((a2 : Int) ≥ slots))) kr (decide_eq_false (by omega))) ?_)))))))
   refine sd_run 12 ?_
   refine sd_loop 142 (cl (cl (cr (cr (cl (cl (cr (cl (cl (cr (cl (cr (cr (cr f21b)))))))))))))) [.blk 2, .blk 1, .next (cr (cr (cl (cl (cr (cl (cr (cr (cr f21b))))))))), .inv R1_, .blk 0, .next (cr (cr (cr (cr f21b))))] kr kr kr (fun m9 s9 => ∃ (j : Nat), m9 = i - j ∧ (j ≤ i) ∧ s9 = ⟨tmL [(1, .slice (some ⟨3, 0, none⟩) c.length kc), (2, .slice (some ⟨4, 0, none⟩) c.length kd), (3, .int .i64 slots), (4, .int .i64 (k : Int)), (11, .slice (some ⟨6, 0, none⟩) c.length (unk + 3)), (12, .int .i64 (i : Int)), (13, .int .i64 (j : Int))], hq [(iiCo c false), (inCo od false), (inCo rd false), (inCo rg false), (inCo sl false), none, some ⟨(tab ivC (ofL c od rd fl tg)), 53, false⟩]⟩) (i - 0) _ (emOf [some 0, some 1, some 2, some 3, some 4, none, some 6]) hX ⟨0, rfl, (by omega), rfl⟩ ⟨sub_of kr kr ⟨iiC_b, inC_b, inC_b, inC_b, inC_b, ivC_b, ⟨⟩⟩, te_of kr kr⟩ kr ?_
   rintro m9 s9 ⟨j, rfl, i3_0, rfl⟩ R3_ hR3_
   by_cases hj : j < i
   ·skip
    obtain ⟨a7, ha7⟩ : ∃ x_, (ofL c od rd fl tg)[i]? = some x_ := ⟨_, List.getElem?_eq_getElem (by rw [ofL_len]; omega)⟩
    obtain ⟨a8, ha8⟩ : ∃ x_, (ofL c od rd fl tg)[j]? = some x_ := ⟨_, List.getElem?_eq_getElem (by rw [ofL_len]; omega)⟩
    obtain ⟨a9, ha9⟩ : ∃ x_, (rg)[j]? = some x_ := ⟨_, List.getElem?_eq_getElem (by omega)⟩
    obtain ⟨a10, ha10⟩ : ∃ x_, (sl)[j]? = some x_ := ⟨_, List.getElem?_eq_getElem (by omega)⟩
    rcases Bool.eq_false_or_eq_true (meetB (a7.1, a7.2.1, a7.2.2) (a8.1, a8.2.1, a8.2.2)) with hmt | hmt
    ·skip
     have hm8 : meetB a7 a8 = true := hmt
     have hne : ¬ a2 = a10 := fun e => by have h9 := hP.apS j i a2 hj hlt (by rw [e]; exact ha10) ha2 (by omega); rw [meetN_at ha8 ha7, meet_comm, hm8] at h9; cases h9
     refine sd_run 6 (sdT 94 ((j : Int) < (i : Int)) (by omega) kr (sd_run 11 (sd_ix 99 (.pointer (some ⟨6, 0 + i * 3, none⟩)) i c.length kr kr kr (by omega) (sd_ld 100 (.agg #[.int .i64 a7.1, .int .i64 a7.2.1, .int .i64 a7.2.2]) 53 (.pointer (some ⟨6, 0 + i * 3, none⟩)) kr kr kr (ld_row (l := (ofL c od rd fl tg)) (e := 53) (ro := false) (k := i) ivC_len kr kr kr ha7) (sd_run 2 (sd_ix 103 (.pointer (some ⟨6, 0 + j * 3, none⟩)) j c.length kr kr kr (by omega) (sd_ld 104 (.agg #[.int .i64 a8.1, .int .i64 a8.2.1, .int .i64 a8.2.2]) 53 (.pointer (some ⟨6, 0 + j * 3, none⟩)) kr kr kr (ld_row (l := (ofL c od rd fl tg)) (e := 53) (ro := false) (k := j) ivC_len kr kr kr ha8) ?_)))))))
     refine sdCp 105 18 #[.agg #[.int .i64 a7.1, .int .i64 a7.2.1, .int .i64 a7.2.2], .agg #[.int .i64 a8.1, .int .i64 a8.2.1, .int .i64 a8.2.2]] (@meetR_s a7.1 a7.2.1 a7.2.2 a8.1 a8.2.1 a8.2.2 ) [] True.intro ?_
     rintro v9 k9 ⟨rfl, rfl⟩
     refine ⟨rfl, .bool (meetB (a7.1, a7.2.1, a7.2.2) (a8.1, a8.2.1, a8.2.2)), kr, ?_⟩
     refine sd_see 105 (.bool true) (see_bool kr hmt) (sd_run 3 (sd_ix 109 (.pointer (some ⟨3, 0 + i * 1, none⟩)) i c.length kr kr kr (by omega) (sd_ld 110 (.int .i64 a1) 3 (.pointer (some ⟨3, 0 + i * 1, none⟩)) kr kr kr (ld_cell (l := rg) (e := 3) (ro := false) (k := i) (j := 0) inC_len kr kr kr ha1 rfl) (sd_run 1 (sd_see 111 (.bool false) (see_bool (x := (decide ((a1 : Int) ≥ 0))) kr (decide_eq_false (by omega))) (sd_run 14 (sd_ix 126 (.pointer (some ⟨4, 0 + i * 1, none⟩)) i c.length kr kr kr (by omega) ?_)))))))
     refine sd_ld 127 (.int .i64 a2) 3 (.pointer (some ⟨4, 0 + i * 1, none⟩)) kr kr kr (ld_cell (l := sl) (e := 3) (ro := false) (k := i) (j := 0) inC_len kr kr kr ha2 rfl) (sd_run 1 (sd_see 128 (.bool true) (see_bool (x := (decide ((a2 : Int) ≥ 0))) kr (decide_eq_true (by omega))) (sd_run 3 (sd_ix 132 (.pointer (some ⟨4, 0 + i * 1, none⟩)) i c.length kr kr kr (by omega) (sd_ld 133 (.int .i64 a2) 3 (.pointer (some ⟨4, 0 + i * 1, none⟩)) kr kr kr (ld_cell (l := sl) (e := 3) (ro := false) (k := i) (j := 0) inC_len kr kr kr ha2 rfl) (sd_run 2 (sd_ix 136 (.pointer (some ⟨4, 0 + j * 1, none⟩)) j c.length kr kr kr (by omega) ?_)))))))
     refine sd_ld 137 (.int .i64 a10) 3 (.pointer (some ⟨4, 0 + j * 1, none⟩)) kr kr kr (ld_cell (l := sl) (e := 3) (ro := false) (k := j) (j := 0) inC_len kr kr kr ha10 rfl) (sd_run 1 (sd_see 138 (.bool false) (see_bool (x := ((a2 : Int) == a10)) kr (beq_eq_false_iff_ne.2 hne)) (sd_run 12 (sd_see 96 (.int .i64 ((j + 1 : Nat) : Int)) (see_int (x := (IntKind.i64.wrap ((j : Int) + 1))) kr (w64 (by omega) (by omega) (by omega))) (sd_run 2 ?_)))))
     refine sd_inv R3_ kr (hR3_ _ (i - (j + 1)) _ (emOf [some 0, some 1, some 2, some 3, some 4, none, some 6]) (by omega) ⟨j + 1, rfl, (by omega), rfl⟩ ⟨sub_of kr kr ⟨iiC_b, inC_b, inC_b, inC_b, inC_b, ivC_b, ⟨⟩⟩, te_of kr kr⟩ kr)
    ·skip
     refine sd_run 6 (sdT 94 ((j : Int) < (i : Int)) (by omega) kr (sd_run 11 (sd_ix 99 (.pointer (some ⟨6, 0 + i * 3, none⟩)) i c.length kr kr kr (by omega) (sd_ld 100 (.agg #[.int .i64 a7.1, .int .i64 a7.2.1, .int .i64 a7.2.2]) 53 (.pointer (some ⟨6, 0 + i * 3, none⟩)) kr kr kr (ld_row (l := (ofL c od rd fl tg)) (e := 53) (ro := false) (k := i) ivC_len kr kr kr ha7) (sd_run 2 (sd_ix 103 (.pointer (some ⟨6, 0 + j * 3, none⟩)) j c.length kr kr kr (by omega) (sd_ld 104 (.agg #[.int .i64 a8.1, .int .i64 a8.2.1, .int .i64 a8.2.2]) 53 (.pointer (some ⟨6, 0 + j * 3, none⟩)) kr kr kr (ld_row (l := (ofL c od rd fl tg)) (e := 53) (ro := false) (k := j) ivC_len kr kr kr ha8) ?_)))))))
     refine sdCp 105 18 #[.agg #[.int .i64 a7.1, .int .i64 a7.2.1, .int .i64 a7.2.2], .agg #[.int .i64 a8.1, .int .i64 a8.2.1, .int .i64 a8.2.2]] (@meetR_s a7.1 a7.2.1 a7.2.2 a8.1 a8.2.1 a8.2.2 ) [] True.intro ?_
     rintro v9 k9 ⟨rfl, rfl⟩
     refine ⟨rfl, .bool (meetB (a7.1, a7.2.1, a7.2.2) (a8.1, a8.2.1, a8.2.2)), kr, ?_⟩
     refine sd_see 105 (.bool false) (see_bool kr hmt) (sd_run 45 (sd_see 96 (.int .i64 ((j + 1 : Nat) : Int)) (see_int (x := (IntKind.i64.wrap ((j : Int) + 1))) kr (w64 (by omega) (by omega) (by omega))) (sd_run 2 ?_)))
     refine sd_inv R3_ kr (hR3_ _ (i - (j + 1)) _ (emOf [some 0, some 1, some 2, some 3, some 4, none, some 6]) (by omega) ⟨j + 1, rfl, (by omega), rfl⟩ ⟨sub_of kr kr ⟨iiC_b, inC_b, inC_b, inC_b, inC_b, ivC_b, ⟨⟩⟩, te_of kr kr⟩ kr)
   ·skip
    obtain rfl : i = j := by omega
    refine sd_run 6 (sdF 94 ((i : Int) < (i : Int)) (by omega) kr (sd_run 12 (sd_see 50 (.int .i64 ((i + 1 : Nat) : Int)) (see_int (x := (IntKind.i64.wrap ((i : Int) + 1))) kr (w64 (by omega) (by omega) (by omega))) (sd_run 2 ?_))))
    refine sd_inv R1_ kr (hR1_ _ (c.length - (i + 1)) _ (emOf [some 0, some 1, some 2, some 3, some 4, none, some 6]) (by omega) ⟨i + 1, rfl, (by omega), rfl⟩ ⟨sub_of kr kr ⟨iiC_b, inC_b, inC_b, inC_b, inC_b, ivC_b, ⟨⟩⟩, te_of kr kr⟩ kr)
 ·skip
  obtain rfl : i = c.length := by omega
  refine sd_run 7 (sdF 48 ((c.length : Int) < (c.length : Int)) (by omega) kr (sd_run 14 ?_))
  refine sdY (.bool true) hX [(iiCo c false), (inCo od false), (inCo rd false), (inCo rg false), (inCo sl false)] i5_ ⟨iiC_b, inC_b, inC_b, inC_b, inC_b, ⟨⟩⟩ ⟨rfl, rfl⟩
theorem dono_s {c : List II} {od rd : List Int} {nd nr hd hr fl nx tg br tk ct : Int} {k : Int} (hR : RightP c od rd nd nr hd hr fl tg br ct (c.length : Int)) (hcl : c.length < 100000) (hol : od.length < 100000) (hrl : rd.length < 100000) (hi : ∀ x ∈ c, 0 ≤ x.2.2.2.2 ∧ x.2.2.2.2 < 4294967296) (hk : k < 1 ∨ 16 < k) : SCall Try.prog T16 11 #[(pgV (s5 0 c.length) nd nr hd hr (s1 1 od.length) (s1 2 rd.length) fl nx tg br tk ct (c.length : Int)), .int .i64 k] (hq [(iiCo c false), (inCo od false), (inCo rd false)]) fun v h => v = .tuple #[.agg #[.slice none 0 0, .slice none 0 0, .int .i64 0], .int .i64 1] ∧ h = hq [(iiCo c false), (inCo od false), (inCo rd false)] := by
 refine scall_sd 132 _ 3 kr f11_fn f11_body rfl rfl rfl fun X hX => ?_
 refine sd_run 11 (sdCp 14 23 #[(pgV (s5 0 c.length) nd nr hd hr (s1 1 od.length) (s1 2 rd.length) fl nx tg br tk ct (c.length : Int))] (@right_s c od rd nd nr hd hr fl nx tg br tk ct (c.length : Int) (by omega) (by omega) (by omega) hi) i3_ ⟨iiC_b, inC_b, inC_b, ⟨⟩⟩ ?_)
 rintro v9 k9 ⟨rfl, rfl⟩
 refine ⟨rfl, .bool (rightB c od rd nd nr hd hr fl tg br ct (c.length : Int)), kr, ?_⟩
 refine sd_see 14 (.bool true) (see_bool kr (rightB_yes hR)) (sd_run 3 (sdCp 18 24 #[.int .i64 k] (@reg_s k ) [] True.intro ?_))
 rintro v9 k9 ⟨rfl, rfl⟩
 refine ⟨rfl, .bool (decide (1 ≤ k) && decide (k ≤ 16)), kr, ?_⟩
 refine sd_see 18 (.bool false) (see_bool kr (show (decide (1 ≤ k) && decide (k ≤ 16)) = false by rw [← Bool.decide_and]; exact decide_eq_false (by omega))) (sd_run 14 ?_)
 refine sdY (.tuple #[.agg #[.slice none 0 0, .slice none 0 0, .int .i64 0], .int .i64 1]) hX [(iiCo c false), (inCo od false), (inCo rd false)] i3_ ⟨iiC_b, inC_b, inC_b, ⟨⟩⟩ ⟨rfl, rfl⟩
end Ls
end Go.Proofs.Ytegjicaoemhhlaa
