/- Chapter 21: a plan is made. -/
import Derived.Test.YtegjicaoemhhlaaJn
import Derived.Test.YtegjicaoemhhlaaJo
import Derived.Test.YtegjicaoemhhlaaJi
namespace Go.Proofs.Ytegjicaoemhhlaa
open Go Go.Ev Go.RowKit
set_option linter.unusedVariables false
set_option linter.unusedSimpArgs false
set_option maxRecDepth 100000
namespace Ls
set_option hygiene false in
local notation "LL" => ofL c od rd fl tg
theorem meetN_at {l : List IV} {i n : Nat} {a b : IV} (h1 : l[i]? = some a) (h2 : l[n]? = some b) : meetN l i n = meetB a b := by unfold meetN; rw [h1, h2]
noncomputable def f11b : Code := Try.f11.body.getD .skip
theorem f11_body : Try.f11.body = some f11b := by kernel_rfl
theorem f11_fn : T16.fn 11 = some Try.f11 := by kernel_rfl
set_option maxHeartbeats 2000000 in
theorem do_s {c : List II} {od rd : List Int} {nd nr hd hr fl nx tg br tk ct : Int} {k : Nat} (hR : RightP c od rd nd nr hd hr fl tg br ct (c.length : Int)) (hcl : c.length < 100000) (hol : od.length < 100000) (hrl : rd.length < 100000) (hi : ∀ x ∈ c, 0 ≤ x.2.2.2.2 ∧ x.2.2.2.2 < 4294967296) (hk : 1 ≤ k ∧ k ≤ 16) : SCall Try.prog T16 11 #[(pgV (s5 0 c.length) nd nr hd hr (s1 1 od.length) (s1 2 rd.length) fl nx tg br tk ct (c.length : Int)), .int .i64 (k : Int)] (hq [(iiCo c false), (inCo od false), (inCo rd false)]) fun v h => ∃ (rg sl : List Int) (slots : Int), PlanN LL k c.length rg sl slots ∧ ((∀ i : Nat, i < c.length → cntAt LL (i : Int) ≤ k) → slots = 0) ∧ v = .tuple #[.agg #[.slice (some ⟨3, 0, none⟩) c.length c.length, .slice (some ⟨4, 0, none⟩) c.length c.length, .int .i64 slots], .int .i64 0] ∧ h = hq [(iiCo c false), (inCo od false), (inCo rd false), (inCo rg false), (inCo sl false)] := by
 have hlen := hR.len
 refine scall_sd 132 _ 3 kr f11_fn f11_body rfl rfl rfl fun X hX => ?_
 refine sd_run 11 (sdCp 14 23 #[(pgV (s5 0 c.length) nd nr hd hr (s1 1 od.length) (s1 2 rd.length) fl nx tg br tk ct (c.length : Int))] (@right_s c od rd nd nr hd hr fl nx tg br tk ct (c.length : Int) (by omega) (by omega) (by omega) hi) i3_ ⟨iiC_b, inC_b, inC_b, ⟨⟩⟩ ?_)
 rintro v9 k9 ⟨rfl, rfl⟩
 refine ⟨rfl, .bool (rightB c od rd nd nr hd hr fl tg br ct (c.length : Int)), kr, ?_⟩
 refine sd_see 14 (.bool true) (see_bool kr (rightB_yes hR)) (sd_run 3 (sdCp 18 24 #[.int .i64 (k : Int)] (@reg_s (k : Int) ) [] True.intro ?_))
 rintro v9 k9 ⟨rfl, rfl⟩
 refine ⟨rfl, .bool (decide (1 ≤ (k : Int)) && decide ((k : Int) ≤ 16)), kr, ?_⟩
 refine sd_see 18 (.bool true) (see_bool kr (show (decide ((1 : Int) ≤ (k : Int)) && decide ((k : Int) ≤ 16)) = true by rw [decide_eq_true (show (1 : Int) ≤ (k : Int) by omega), decide_eq_true (show (k : Int) ≤ 16 by omega)]; rfl)) (sd_run 8 (sd_drawP kr ?_))
 refine svp_go 3 ?_
 refine svp_line ?_
 refine sv_call 25 25 #[.slice (some ⟨5, 0, none⟩) 1 1, .int .i64 (c.length : Int)] (@repeat_s c.length (by omega)) (emOf [some 5]) kr kr kr (hn_of 0 kr ⟨brn, ⟨⟩⟩) (rnG_sound rn2_sound _ _ kr) ?_
 rintro v9 k9 ⟨rfl, rfl⟩
 refine ⟨.slice (some ⟨6, 0, none⟩) c.length c.length, hq [(iiCo c false), (inCo od false), (inCo rd false), some ⟨[(s5 0 c.length), .int .i64 nd, .int .i64 nr, .int .i64 hd, .int .i64 hr, (s1 1 od.length), (s1 2 rd.length), .int .i64 fl, .int .u32 nx, .int .i64 tg, .int .i64 br, .int .u32 tk, .int .i64 ct, .int .i64 (c.length : Int)], 29, false⟩, some ⟨[Value.slice none 0 0, .slice none 0 0, .int .i64 0], 38, false⟩, some ⟨[Value.int .i64 (-1)], 3, false⟩, (inCo (List.replicate c.length (-1)) false)], glue_of kr kr ⟨cvo, cvo, cvo, cvo, cvo, cov_same 0 (hn_of 0 kr ⟨brn, ⟨⟩⟩) kr kr kr kr kr, inC_c 1, ⟨⟩⟩, rn2_sound _ _ kr, (fun _ => ⟨kr, keep_of (l1 := [(iiCo c false), (inCo od false), (inCo rd false), some ⟨[(s5 0 c.length), .int .i64 nd, .int .i64 nr, .int .i64 hd, .int .i64 hr, (s1 1 od.length), (s1 2 rd.length), .int .i64 fl, .int .u32 nx, .int .i64 tg, .int .i64 br, .int .u32 tk, .int .i64 ct, .int .i64 (c.length : Int)], 29, false⟩, some ⟨[Value.slice none 0 0, .slice none 0 0, .int .i64 0], 38, false⟩, some ⟨[Value.int .i64 (-1)], 3, false⟩]) kr kr⟩), ?_⟩
 refine sv_run 2 ?_
 refine sv_rd 28 (.int .i64 (c.length : Int)) 3 3 13 kr kr kr kr (veq_int _ _) kr ?_
 refine sv_call 29 25 #[.slice (some ⟨7, 0, none⟩) 1 1, .int .i64 (c.length : Int)] (@repeat_s c.length (by omega)) (emOf [some 7]) kr kr kr (hn_of 0 kr ⟨brn, ⟨⟩⟩) (rnG_sound rn2_sound _ _ kr) ?_
 rintro v9 k9 ⟨rfl, rfl⟩
 refine ⟨.slice (some ⟨8, 0, none⟩) c.length c.length, hq [(iiCo c false), (inCo od false), (inCo rd false), some ⟨[(s5 0 c.length), .int .i64 nd, .int .i64 nr, .int .i64 hd, .int .i64 hr, (s1 1 od.length), (s1 2 rd.length), .int .i64 fl, .int .u32 nx, .int .i64 tg, .int .i64 br, .int .u32 tk, .int .i64 ct, .int .i64 (c.length : Int)], 29, false⟩, some ⟨[Value.slice none 0 0, .slice none 0 0, .int .i64 0], 38, false⟩, some ⟨[Value.int .i64 (-1)], 3, false⟩, (inCo (List.replicate c.length (-1)) false), some ⟨[Value.int .i64 (-1)], 3, false⟩, (inCo (List.replicate c.length (-1)) false)], glue_of kr kr ⟨cvo, cvo, cvo, cvo, cvo, cvo, cvo, cov_same 0 (hn_of 0 kr ⟨brn, ⟨⟩⟩) kr kr kr kr kr, inC_c 1, ⟨⟩⟩, rn2_sound _ _ kr, (fun _ => ⟨kr, keep_of (l1 := [(iiCo c false), (inCo od false), (inCo rd false), some ⟨[(s5 0 c.length), .int .i64 nd, .int .i64 nr, .int .i64 hd, .int .i64 hr, (s1 1 od.length), (s1 2 rd.length), .int .i64 fl, .int .u32 nx, .int .i64 tg, .int .i64 br, .int .u32 tk, .int .i64 ct, .int .i64 (c.length : Int)], 29, false⟩, some ⟨[Value.slice none 0 0, .slice none 0 0, .int .i64 0], 38, false⟩, some ⟨[Value.int .i64 (-1)], 3, false⟩, (inCo (List.replicate c.length (-1)) false), some ⟨[Value.int .i64 (-1)], 3, false⟩]) kr kr⟩), ?_⟩
 refine sv_run 1 ?_
 refine sv_rd 31 (pgV (s5 0 c.length) nd nr hd hr (s1 1 od.length) (s1 2 rd.length) fl nx tg br tk ct (c.length : Int)) 29 3 0 kr kr kr kr (veqs_c (veq_slice _ _ _) (veqs_c (veq_int _ _) (veqs_c (veq_int _ _) (veqs_c (veq_int _ _) (veqs_c (veq_int _ _) (veqs_c (veq_slice _ _ _) (veqs_c (veq_slice _ _ _) (veqs_c (veq_int _ _) (veqs_c (veq_int _ _) (veqs_c (veq_int _ _) (veqs_c (veq_int _ _) (veqs_c (veq_int _ _) (veqs_c (veq_int _ _) (veqs_c (veq_int _ _) rfl)))))))))))))) kr ?_
 refine sv_call 32 26 #[(pgV (s5 0 c.length) nd nr hd hr (s1 1 od.length) (s1 2 rd.length) fl nx tg br tk ct (c.length : Int))] (@of_s c od rd nd nr hd hr fl nx tg br tk ct hR (by omega) (by omega) hi) e3_ kr kr kr (hn_of 0 kr ⟨iiC_b, inC_b, inC_b, ⟨⟩⟩) (rnG_sound rn2_sound _ _ kr) ?_
 rintro v9 k9 ⟨rfl, rfl⟩
 refine ⟨.slice (some ⟨9, 0, none⟩) c.length (unk + 3), hq [(iiCo c false), (inCo od false), (inCo rd false), some ⟨[(s5 0 c.length), .int .i64 nd, .int .i64 nr, .int .i64 hd, .int .i64 hr, (s1 1 od.length), (s1 2 rd.length), .int .i64 fl, .int .u32 nx, .int .i64 tg, .int .i64 br, .int .u32 tk, .int .i64 ct, .int .i64 (c.length : Int)], 29, false⟩, some ⟨[Value.slice none 0 0, .slice none 0 0, .int .i64 0], 38, false⟩, some ⟨[Value.int .i64 (-1)], 3, false⟩, (inCo (List.replicate c.length (-1)) false), some ⟨[Value.int .i64 (-1)], 3, false⟩, (inCo (List.replicate c.length (-1)) false), (ivCo LL false)], glue_of kr kr ⟨cov_same 0 (hn_of 0 kr ⟨iiC_b, inC_b, inC_b, ⟨⟩⟩) kr kr kr kr kr, cov_same 1 (hn_of 0 kr ⟨iiC_b, inC_b, inC_b, ⟨⟩⟩) kr kr kr kr kr, cov_same 2 (hn_of 0 kr ⟨iiC_b, inC_b, inC_b, ⟨⟩⟩) kr kr kr kr kr, cvo, cvo, cvo, cvo, cvo, cvo, ivC_c 3, ⟨⟩⟩, rn2_sound _ _ kr, (calm_no kr), ?_⟩
 refine sv_run 3 ?_
 refine sv_end kr ?_
 refine sd_run 13 ?_
 refine sd_loop 132 (cl (cl (cr (cl (cr (cr (cr f11b))))))) [.blk 0, .next (cr (cr (cr (cr f11b))))] kr kr kr (fun m9 s9 => ∃ (n : Nat) (rg : List Int) (sl : List Int) (slots : Int), m9 = c.length - n ∧ (n ≤ c.length) ∧ (PlanN LL k n rg sl slots) ∧ (rg.length = c.length) ∧ (sl.length = c.length) ∧ (0 ≤ slots ∧ slots ≤ n) ∧ ((∀ i : Nat, i < c.length → cntAt LL (i : Int) ≤ k) → slots = 0) ∧ s9 = ⟨tmL [(1, .int .i64 (k : Int)), (4, .pointer (some ⟨4, 0, none⟩)), (6, .pointer (some ⟨10, 0, none⟩)), (38, .slice (some ⟨9, 0, none⟩) c.length (unk + 3)), (39, .int .i64 (c.length : Int)), (40, .int .i64 (n : Int))], hq [(iiCo c false), (inCo od false), (inCo rd false), none, some ⟨[Value.slice none 0 0, .slice none 0 0, .int .i64 0], 38, false⟩, none, (inCo rg false), none, (inCo sl false), (ivCo LL false), some ⟨[Value.slice (some ⟨6, 0, none⟩) c.length c.length, .slice (some ⟨8, 0, none⟩) c.length c.length, .int .i64 slots, .slice (some ⟨9, 0, none⟩) c.length (unk + 3)], 68, false⟩]⟩) (c.length - 0) _ (emOf [some 0, some 1, some 2, none, some 4, none, some 6, none, some 8, some 9, some 10]) hX ⟨0, (List.replicate c.length (-1)), (List.replicate c.length (-1)), 0, rfl, (Nat.zero_le _), (by have q := plan0 LL k; rw [ofL_len] at q; exact q), (by simp), (by simp), (by omega), (fun _ => rfl), rfl⟩ ⟨sub_of kr kr ⟨iiC_b, inC_b, inC_b, brn, inC_b, inC_b, ivC_b, brn, ⟨⟩⟩, te_of kr kr⟩ kr ?_
 rintro m9 s9 ⟨n, rg, sl, slots, rfl, i1_0, i1_1, i1_2, i1_3, i1_4, i1_5, rfl⟩ R1_ hR1_
 by_cases hlt : n < c.length
 ·skip
  obtain ⟨a1, ha1⟩ : ∃ x_, (LL)[n]? = some x_ := ⟨_, List.getElem?_eq_getElem (by rw [ofL_len]; omega)⟩
  have hfr := freeK_ok LL rg n
  have hfl := freeK_le LL rg n
  have hnl : n < (LL).length := by rw [ofL_len]; exact hlt
  by_cases hqk : freeK LL rg n < k
  ·skip
   refine sd_run 3 (sdT 41 ((n : Int) < (c.length : Int)) (by omega) kr (sd_run 11 (sd_ix 43 (.pointer (some ⟨9, 0 + n * 3, none⟩)) n c.length kr kr kr (by omega) (sd_ld 44 (.agg #[.int .i64 a1.1, .int .i64 a1.2.1, .int .i64 a1.2.2]) 69 (.pointer (some ⟨9, 0 + n * 3, none⟩)) kr kr kr (ld_row (l := LL) (e := 69) (ro := false) (k := n) ivC_len kr kr kr ha1) (sd_run 14 (sdCp 52 27 #[.pointer (some ⟨10, 0, none⟩), .slice (some ⟨6, 0, none⟩) c.length c.length, .int .i64 (n : Int)] (@free1_s rg sl LL n c.length slots i1_2.symm i1_3.symm (by rw [ofL_len]) hlt (by omega)) [some 10, some 6, some 8, some 9] ⟨brn, inC_b, inC_b, ivC_b, ⟨⟩⟩ ?_))))))
   rintro v9 k9 ⟨rfl, rfl⟩
   refine ⟨rfl, .int .i64 (((freeK LL rg n) : Nat) : Int), kr, ?_⟩
   refine sd_run 9 (sd_see 55 (.bool true) (see_bool (x := (decide ((((freeK LL rg n) : Nat) : Int) < (k : Int)))) kr (decide_eq_true (by omega))) (sd_run 12 (sd_ix 63 (.pointer (some ⟨6, 0 + n * 1, none⟩)) n c.length kr kr kr (by omega) ?_)))
   obtain ⟨a2, ha2⟩ : ∃ x_, (rg)[n]? = some x_ := ⟨_, List.getElem?_eq_getElem (by first | omega | (simp; omega))⟩
   refine sd_st 3 6 (0 + n * 1) (.int .i64 (((freeK LL rg n) : Nat) : Int)) (tab inC ((rg).set n (((freeK LL rg n) : Nat) : Int))) (cells := tab inC rg) (e := 3) kr kr kr kr (st_cell (k := n) (j := 0) (a' := (((freeK LL rg n) : Nat) : Int)) inC_len kr kr ha2 kr rfl) (sd_run 8 (sd_see 127 (.int .i64 ((n + 1 : Nat) : Int)) (see_int (x := (IntKind.i64.wrap ((n : Int) + 1))) kr (w64 (by omega) (by omega) (by omega))) (sd_run 2 ?_)))
   refine sd_inv R1_ kr (hR1_ _ (c.length - (n + 1)) _ (emOf [some 0, some 1, some 2, none, some 4, none, some 6, none, some 8, some 9, some 10]) (by omega) ⟨n + 1, (rg.set n ((freeK LL rg n : Nat) : Int)), sl, slots, rfl, (by omega), (i1_1.reg hnl hfr hqk), (by simp; exact i1_2), i1_3, (by omega), i1_5, rfl⟩ ⟨sub_of kr kr ⟨iiC_b, inC_b, inC_b, brn, bk_flat (tab inC ((rg).set n (((freeK LL rg n) : Nat) : Int))) kr (tab_plain inC_pl _) (by rfl), inC_b, ivC_b, brn, ⟨⟩⟩, te_of kr kr⟩ kr)
  ·skip
   refine sd_run 3 (sdT 41 ((n : Int) < (c.length : Int)) (by omega) kr (sd_run 11 (sd_ix 43 (.pointer (some ⟨9, 0 + n * 3, none⟩)) n c.length kr kr kr (by omega) (sd_ld 44 (.agg #[.int .i64 a1.1, .int .i64 a1.2.1, .int .i64 a1.2.2]) 69 (.pointer (some ⟨9, 0 + n * 3, none⟩)) kr kr kr (ld_row (l := LL) (e := 69) (ro := false) (k := n) ivC_len kr kr kr ha1) (sd_run 14 (sdCp 52 27 #[.pointer (some ⟨10, 0, none⟩), .slice (some ⟨6, 0, none⟩) c.length c.length, .int .i64 (n : Int)] (@free1_s rg sl LL n c.length slots i1_2.symm i1_3.symm (by rw [ofL_len]) hlt (by omega)) [some 10, some 6, some 8, some 9] ⟨brn, inC_b, inC_b, ivC_b, ⟨⟩⟩ ?_))))))
   rintro v9 k9 ⟨rfl, rfl⟩
   refine ⟨rfl, .int .i64 (((freeK LL rg n) : Nat) : Int), kr, ?_⟩
   refine sd_run 9 (sd_see 55 (.bool false) (see_bool (x := (decide ((((freeK LL rg n) : Nat) : Int) < (k : Int)))) kr (decide_eq_false (by omega))) (sd_run 19 (sd_slh 70 65 69 3 9 0 c.length n .i64 kr kr kr kr kr (by omega) (sd_run 5 ?_))))
   refine sd_loop 132 (cl (cl (cr (cl (cr (cr (cr (cr (cl (cl (cr (cr (cl (cl (cr (cl (cr (cr (cr f11b))))))))))))))))))) [.blk 2, .next (cr (cr (cr (cr (cr (cl (cl (cr (cr (cl (cl (cr (cl (cr (cr (cr f11b)))))))))))))))), .blk 1, .next (cr (cr (cr (cl (cl (cr (cl (cr (cr (cr f11b)))))))))), .inv R1_, .blk 0, .next (cr (cr (cr (cr f11b))))] kr kr kr (fun m9 s9 => ∃ (j : Nat) (q : Nat), m9 = n - j ∧ (j ≤ n) ∧ (q = n ∨ (q < n ∧ ∃ r : Int, rg[q]? = some r ∧ r ≠ -1 ∧ meetN LL q n = true)) ∧ s9 = ⟨tmL [(1, .int .i64 (k : Int)), (4, .pointer (some ⟨4, 0, none⟩)), (6, .pointer (some ⟨10, 0, none⟩)), (7, .int .i64 (n : Int)), (8, .pointer (some ⟨11, 0, none⟩)), (10, .int .i64 (q : Int)), (38, .slice (some ⟨9, 0, none⟩) c.length (unk + 3)), (39, .int .i64 (c.length : Int)), (40, .int .i64 (n : Int)), (70, .slice (some ⟨9, 0, none⟩) n (unk + 3)), (71, .int .i64 (n : Int)), (72, .int .i64 (j : Int))], hq [(iiCo c false), (inCo od false), (inCo rd false), none, some ⟨[Value.slice none 0 0, .slice none 0 0, .int .i64 0], 38, false⟩, none, (inCo rg false), none, (inCo sl false), (ivCo LL false), some ⟨[Value.slice (some ⟨6, 0, none⟩) c.length c.length, .slice (some ⟨8, 0, none⟩) c.length c.length, .int .i64 slots, .slice (some ⟨9, 0, none⟩) c.length (unk + 3)], 68, false⟩, some ⟨[Value.int .i64 a1.1, .int .i64 a1.2.1, .int .i64 a1.2.2], 69, false⟩]⟩) (n - 0) _ (emOf [some 0, some 1, some 2, none, some 4, none, some 6, none, some 8, some 9, some 10, some 11]) hX ⟨0, n, rfl, (Nat.zero_le _), (.inl rfl), rfl⟩ ⟨sub_of kr kr ⟨iiC_b, inC_b, inC_b, brn, inC_b, inC_b, ivC_b, brn, brn, ⟨⟩⟩, te_of kr kr⟩ kr ?_
   rintro m9 s9 ⟨j, q, rfl, i2_0, i2_1, rfl⟩ R2_ hR2_
   by_cases hj : j < n
   ·skip
    obtain ⟨a3, ha3⟩ : ∃ x_, (LL)[j]? = some x_ := ⟨_, List.getElem?_eq_getElem (by rw [ofL_len]; omega)⟩
    obtain ⟨a4, ha4⟩ : ∃ x_, (rg)[j]? = some x_ := ⟨_, List.getElem?_eq_getElem (by first | omega | (simp; omega))⟩
    have hql : q < c.length := by omega
    obtain ⟨a5, ha5⟩ : ∃ x_, (LL)[q]? = some x_ := ⟨_, List.getElem?_eq_getElem (by rw [ofL_len]; omega)⟩
    by_cases hr1 : a4 = -1
    ·skip
     refine sd_run 3 (sdT 73 ((j : Int) < (n : Int)) (by omega) kr (sd_run 11 (sd_ix 75 (.pointer (some ⟨9, 0 + j * 3, none⟩)) j n kr kr kr (by omega) (sd_ld 76 (.agg #[.int .i64 a3.1, .int .i64 a3.2.1, .int .i64 a3.2.2]) 69 (.pointer (some ⟨9, 0 + j * 3, none⟩)) kr kr kr (ld_row (l := LL) (e := 69) (ro := false) (k := j) ivC_len kr kr kr ha3) (sd_run 13 (sd_ix 83 (.pointer (some ⟨6, 0 + j * 1, none⟩)) j c.length kr kr kr (by omega) (sd_ld 84 (.int .i64 a4) 3 (.pointer (some ⟨6, 0 + j * 1, none⟩)) kr kr kr (ld_cell (l := rg) (e := 3) (ro := false) (k := j) (j := 0) inC_len kr kr kr ha4 rfl) ?_)))))))
     refine sd_run 1 (sd_see 85 (.bool false) (see_bool (x := ((a4 : Int) != (-1))) kr (bne_eq_false_iff_eq.2 hr1)) (sd_run 26 (sd_see 105 (.int .i64 ((j + 1 : Nat) : Int)) (see_int (x := (IntKind.i64.wrap ((j : Int) + 1))) kr (w64 (by omega) (by omega) (by omega))) (sd_run 2 ?_))))
     refine sd_inv R2_ kr (hR2_ _ (n - (j + 1)) _ (emOf [some 0, some 1, some 2, none, some 4, none, some 6, none, some 8, some 9, some 10, some 11]) (by omega) ⟨j + 1, q, rfl, (by omega), (by omega), rfl⟩ ⟨sub_of kr kr ⟨iiC_b, inC_b, inC_b, brn, inC_b, inC_b, ivC_b, brn, brn, ⟨⟩⟩, te_of kr kr⟩ kr)
    ·skip
     rcases Bool.eq_false_or_eq_true (meetB (a1.1, a1.2.1, a1.2.2) (a3.1, a3.2.1, a3.2.2)) with hmt | hmt
     ·skip
      by_cases hto : a3.2.2 > a5.2.2
      ·skip
       refine sd_run 3 (sdT 73 ((j : Int) < (n : Int)) (by omega) kr (sd_run 11 (sd_ix 75 (.pointer (some ⟨9, 0 + j * 3, none⟩)) j n kr kr kr (by omega) (sd_ld 76 (.agg #[.int .i64 a3.1, .int .i64 a3.2.1, .int .i64 a3.2.2]) 69 (.pointer (some ⟨9, 0 + j * 3, none⟩)) kr kr kr (ld_row (l := LL) (e := 69) (ro := false) (k := j) ivC_len kr kr kr ha3) (sd_run 13 (sd_ix 83 (.pointer (some ⟨6, 0 + j * 1, none⟩)) j c.length kr kr kr (by omega) (sd_ld 84 (.int .i64 a4) 3 (.pointer (some ⟨6, 0 + j * 1, none⟩)) kr kr kr (ld_cell (l := rg) (e := 3) (ro := false) (k := j) (j := 0) inC_len kr kr kr ha4 rfl) ?_)))))))
       refine sd_run 1 (sd_see 85 (.bool true) (see_bool (x := ((a4 : Int) != (-1))) kr (bne_iff_ne.2 hr1)) (sd_run 3 (sdCp 89 28 #[.agg #[.int .i64 a1.1, .int .i64 a1.2.1, .int .i64 a1.2.2], .agg #[.int .i64 a3.1, .int .i64 a3.2.1, .int .i64 a3.2.2]] (@meetL_s a1.1 a1.2.1 a1.2.2 a3.1 a3.2.1 a3.2.2 ) [] True.intro ?_)))
       rintro v9 k9 ⟨rfl, rfl⟩
       refine ⟨rfl, .bool (meetB (a1.1, a1.2.1, a1.2.2) (a3.1, a3.2.1, a3.2.2)), kr, ?_⟩
       refine sd_see 89 (.bool true) (see_bool kr hmt) (sd_run 9 (sd_ix 99 (.pointer (some ⟨9, 0 + q * 3, none⟩)) q c.length kr kr kr (by omega) (sd_run 1 (sd_ld 101 (.int .i64 a5.2.2) 3 (.pointer (some ⟨9, 0 + q * 3 + 2, none⟩)) kr kr kr (ld_cell (l := LL) (e := 69) (ro := false) (k := q) (j := 2) ivC_len kr kr kr ha5 rfl) (sd_run 1 (sd_see 102 (.bool true) (see_bool (x := (decide ((a3.2.2 : Int) > a5.2.2))) kr (decide_eq_true hto)) (sd_run 12 ?_)))))))
       refine sd_see 105 (.int .i64 ((j + 1 : Nat) : Int)) (see_int (x := (IntKind.i64.wrap ((j : Int) + 1))) kr (w64 (by omega) (by omega) (by omega))) (sd_run 2 ?_)
       refine sd_inv R2_ kr (hR2_ _ (n - (j + 1)) _ (emOf [some 0, some 1, some 2, none, some 4, none, some 6, none, some 8, some 9, some 10, some 11]) (by omega) ⟨j + 1, j, rfl, (by omega), (.inr ⟨by omega, _, ha4, hr1, by rw [meetN_at ha3 ha1, meet_comm]; exact hmt⟩), rfl⟩ ⟨sub_of kr kr ⟨iiC_b, inC_b, inC_b, brn, inC_b, inC_b, ivC_b, brn, brn, ⟨⟩⟩, te_of kr kr⟩ kr)
      ·skip
       refine sd_run 3 (sdT 73 ((j : Int) < (n : Int)) (by omega) kr (sd_run 11 (sd_ix 75 (.pointer (some ⟨9, 0 + j * 3, none⟩)) j n kr kr kr (by omega) (sd_ld 76 (.agg #[.int .i64 a3.1, .int .i64 a3.2.1, .int .i64 a3.2.2]) 69 (.pointer (some ⟨9, 0 + j * 3, none⟩)) kr kr kr (ld_row (l := LL) (e := 69) (ro := false) (k := j) ivC_len kr kr kr ha3) (sd_run 13 (sd_ix 83 (.pointer (some ⟨6, 0 + j * 1, none⟩)) j c.length kr kr kr (by omega) (sd_ld 84 (.int .i64 a4) 3 (.pointer (some ⟨6, 0 + j * 1, none⟩)) kr kr kr (ld_cell (l := rg) (e := 3) (ro := false) (k := j) (j := 0) inC_len kr kr kr ha4 rfl) ?_)))))))
       refine sd_run 1 (sd_see 85 (.bool true) (see_bool (x := ((a4 : Int) != (-1))) kr (bne_iff_ne.2 hr1)) (sd_run 3 (sdCp 89 28 #[.agg #[.int .i64 a1.1, .int .i64 a1.2.1, .int .i64 a1.2.2], .agg #[.int .i64 a3.1, .int .i64 a3.2.1, .int .i64 a3.2.2]] (@meetL_s a1.1 a1.2.1 a1.2.2 a3.1 a3.2.1 a3.2.2 ) [] True.intro ?_)))
       rintro v9 k9 ⟨rfl, rfl⟩
       refine ⟨rfl, .bool (meetB (a1.1, a1.2.1, a1.2.2) (a3.1, a3.2.1, a3.2.2)), kr, ?_⟩
       refine sd_see 89 (.bool true) (see_bool kr hmt) (sd_run 9 (sd_ix 99 (.pointer (some ⟨9, 0 + q * 3, none⟩)) q c.length kr kr kr (by omega) (sd_run 1 (sd_ld 101 (.int .i64 a5.2.2) 3 (.pointer (some ⟨9, 0 + q * 3 + 2, none⟩)) kr kr kr (ld_cell (l := LL) (e := 69) (ro := false) (k := q) (j := 2) ivC_len kr kr kr ha5 rfl) (sd_run 1 (sd_see 102 (.bool false) (see_bool (x := (decide ((a3.2.2 : Int) > a5.2.2))) kr (decide_eq_false hto)) (sd_run 9 ?_)))))))
       refine sd_see 105 (.int .i64 ((j + 1 : Nat) : Int)) (see_int (x := (IntKind.i64.wrap ((j : Int) + 1))) kr (w64 (by omega) (by omega) (by omega))) (sd_run 2 ?_)
       refine sd_inv R2_ kr (hR2_ _ (n - (j + 1)) _ (emOf [some 0, some 1, some 2, none, some 4, none, some 6, none, some 8, some 9, some 10, some 11]) (by omega) ⟨j + 1, q, rfl, (by omega), (by omega), rfl⟩ ⟨sub_of kr kr ⟨iiC_b, inC_b, inC_b, brn, inC_b, inC_b, ivC_b, brn, brn, ⟨⟩⟩, te_of kr kr⟩ kr)
     ·skip
      refine sd_run 3 (sdT 73 ((j : Int) < (n : Int)) (by omega) kr (sd_run 11 (sd_ix 75 (.pointer (some ⟨9, 0 + j * 3, none⟩)) j n kr kr kr (by omega) (sd_ld 76 (.agg #[.int .i64 a3.1, .int .i64 a3.2.1, .int .i64 a3.2.2]) 69 (.pointer (some ⟨9, 0 + j * 3, none⟩)) kr kr kr (ld_row (l := LL) (e := 69) (ro := false) (k := j) ivC_len kr kr kr ha3) (sd_run 13 (sd_ix 83 (.pointer (some ⟨6, 0 + j * 1, none⟩)) j c.length kr kr kr (by omega) (sd_ld 84 (.int .i64 a4) 3 (.pointer (some ⟨6, 0 + j * 1, none⟩)) kr kr kr (ld_cell (l := rg) (e := 3) (ro := false) (k := j) (j := 0) inC_len kr kr kr ha4 rfl) ?_)))))))
      refine sd_run 1 (sd_see 85 (.bool true) (see_bool (x := ((a4 : Int) != (-1))) kr (bne_iff_ne.2 hr1)) (sd_run 3 (sdCp 89 28 #[.agg #[.int .i64 a1.1, .int .i64 a1.2.1, .int .i64 a1.2.2], .agg #[.int .i64 a3.1, .int .i64 a3.2.1, .int .i64 a3.2.2]] (@meetL_s a1.1 a1.2.1 a1.2.2 a3.1 a3.2.1 a3.2.2 ) [] True.intro ?_)))
      rintro v9 k9 ⟨rfl, rfl⟩
      refine ⟨rfl, .bool (meetB (a1.1, a1.2.1, a1.2.2) (a3.1, a3.2.1, a3.2.2)), kr, ?_⟩
      refine sd_see 89 (.bool false) (see_bool kr hmt) (sd_run 22 (sd_see 105 (.int .i64 ((j + 1 : Nat) : Int)) (see_int (x := (IntKind.i64.wrap ((j : Int) + 1))) kr (w64 (by omega) (by omega) (by omega))) (sd_run 2 ?_)))
      refine sd_inv R2_ kr (hR2_ _ (n - (j + 1)) _ (emOf [some 0, some 1, some 2, none, some 4, none, some 6, none, some 8, some 9, some 10, some 11]) (by omega) ⟨j + 1, q, rfl, (by omega), (by omega), rfl⟩ ⟨sub_of kr kr ⟨iiC_b, inC_b, inC_b, brn, inC_b, inC_b, ivC_b, brn, brn, ⟨⟩⟩, te_of kr kr⟩ kr)
   ·skip
    obtain rfl : n = j := by omega
    rcases i2_1 with hqn | ⟨hqn, hqr⟩
    ·skip
     obtain rfl := hqn.symm
     skip
     have hfs := freeK_ok LL sl n
     have hpn := i1_1.spill hnl hfs
     refine sd_run 3 (sdF 73 ((n : Int) < (n : Int)) (by omega) kr (sd_run 15 (sd_see 108 (.bool false) (see_bool (x := ((n : Int) != (n : Int))) kr (bne_eq_false_iff_eq.2 (by omega))) (sd_run 8 (sd_see 125 (.int .i64 (n : Int)) (see_int (x := (n : Int)) kr (by omega)) (sdC 126 29 #[.pointer (some ⟨10, 0, none⟩), .int .i64 (n : Int)] (@spill_s rg sl LL n c.length slots (by first | omega | (simp; omega)) (by omega) (by rw [ofL_len]) (by omega) (by omega) (by omega)) [some 10, some 6, some 8, some 9] ⟨brn, inC_b, inC_b, ivC_b, ⟨⟩⟩ ?_))))))
     rintro hn9 v9 k9 ⟨rfl, rfl⟩
     refine mkG (.tuple #[]) [(iiCo c false), (inCo od false), (inCo rd false), none, some ⟨[Value.slice none 0 0, .slice none 0 0, .int .i64 0], 38, false⟩, none, (inCo (rg.set n (-1)) false), none, (inCo (sl.set n ((freeK LL sl n : Nat) : Int)) false), (ivCo LL false), some ⟨[Value.slice (some ⟨6, 0, none⟩) c.length c.length, .slice (some ⟨8, 0, none⟩) c.length c.length, .int .i64 (max slots (((freeK LL sl n : Nat) : Int) + 1)), .slice (some ⟨9, 0, none⟩) c.length (unk + 3)], 68, false⟩, some ⟨[Value.int .i64 a1.1, .int .i64 a1.2.1, .int .i64 a1.2.2], 69, false⟩] ⟨cvo, cvo, cvo, cvo, inC_c 1, inC_c 2, cvs 3 hn9, cvr 0, cvo, ⟨⟩⟩ ?_
     refine sd_run 5 (sd_see 127 (.int .i64 ((n + 1 : Nat) : Int)) (see_int (x := (IntKind.i64.wrap ((n : Int) + 1))) kr (w64 (by omega) (by omega) (by omega))) (sd_run 2 ?_))
     refine sd_inv R1_ kr (hR1_ _ (c.length - (n + 1)) _ (emOf [some 0, some 1, some 2, none, some 4, none, some 6, none, some 8, some 9, some 10]) (by omega) ⟨n + 1, (rg.set n (-1)), (sl.set n ((freeK LL sl n : Nat) : Int)), (max slots (((freeK LL sl n : Nat) : Int) + 1)), rfl, (by omega), hpn, (by simp; exact i1_2), (by simp; exact i1_3), hpn.s0, (fun hp => absurd (press_free (ivs_of hR) i1_1 hnl hfr (hp n hlt)) hqk), rfl⟩ ⟨sub_of kr kr ⟨iiC_b, inC_b, inC_b, brn, inC_b, inC_b, ivC_b, brn, ⟨⟩⟩, te_of kr kr⟩ kr)
    ·skip
     obtain ⟨r9, hr9, hne9, hm9⟩ := hqr
     have hfs := freeK_ok LL sl q
     have hpn := i1_1.swap (ivs_of hR) hnl hqn hr9 hne9 hm9 hfs
     refine sd_run 3 (sdF 73 ((n : Int) < (n : Int)) (by omega) kr (sd_run 15 (sd_see 108 (.bool true) (see_bool (x := ((q : Int) != (n : Int))) kr (bne_iff_ne.2 (by omega))) (sd_run 16 (sd_ix 121 (.pointer (some ⟨6, 0 + q * 1, none⟩)) q c.length kr kr kr (by omega) (sd_ld 122 (.int .i64 r9) 3 (.pointer (some ⟨6, 0 + q * 1, none⟩)) kr kr kr (ld_cell (l := rg) (e := 3) (ro := false) (k := q) (j := 0) inC_len kr kr kr hr9 rfl) (sd_ix 123 (.pointer (some ⟨6, 0 + n * 1, none⟩)) n c.length kr kr kr (by omega) ?_)))))))
     obtain ⟨a6, ha6⟩ : ∃ x_, (rg)[n]? = some x_ := ⟨_, List.getElem?_eq_getElem (by first | omega | (simp; omega))⟩
     refine sd_st 3 6 (0 + n * 1) (.int .i64 r9) (tab inC ((rg).set n r9)) (cells := tab inC rg) (e := 3) kr kr kr kr (st_cell (k := n) (j := 0) (a' := r9) inC_len kr kr ha6 kr rfl) (sd_run 5 (sdC 126 29 #[.pointer (some ⟨10, 0, none⟩), .int .i64 (q : Int)] (@spill_s ((rg).set n r9) sl LL q c.length slots (by first | omega | (simp; omega)) (by omega) (by rw [ofL_len]) (by omega) (by omega) (by omega)) [some 10, some 6, some 8, some 9] ⟨brn, inC_b, inC_b, ivC_b, ⟨⟩⟩ ?_))
     rintro hn9 v9 k9 ⟨rfl, rfl⟩
     refine mkG (.tuple #[]) [(iiCo c false), (inCo od false), (inCo rd false), none, some ⟨[Value.slice none 0 0, .slice none 0 0, .int .i64 0], 38, false⟩, none, (inCo (((rg).set n r9).set q (-1)) false), none, (inCo (sl.set q ((freeK LL sl q : Nat) : Int)) false), (ivCo LL false), some ⟨[Value.slice (some ⟨6, 0, none⟩) c.length c.length, .slice (some ⟨8, 0, none⟩) c.length c.length, .int .i64 (max slots (((freeK LL sl q : Nat) : Int) + 1)), .slice (some ⟨9, 0, none⟩) c.length (unk + 3)], 68, false⟩, some ⟨[Value.int .i64 a1.1, .int .i64 a1.2.1, .int .i64 a1.2.2], 69, false⟩] ⟨cvo, cvo, cvo, cvo, inC_c 1, inC_c 2, cvs 3 hn9, cvr 0, cvo, ⟨⟩⟩ ?_
     refine sd_run 5 (sd_see 127 (.int .i64 ((n + 1 : Nat) : Int)) (see_int (x := (IntKind.i64.wrap ((n : Int) + 1))) kr (w64 (by omega) (by omega) (by omega))) (sd_run 2 ?_))
     refine sd_inv R1_ kr (hR1_ _ (c.length - (n + 1)) _ (emOf [some 0, some 1, some 2, none, some 4, none, some 6, none, some 8, some 9, some 10]) (by omega) ⟨n + 1, ((rg.set n r9).set q (-1)), (sl.set q ((freeK LL sl q : Nat) : Int)), (max slots (((freeK LL sl q : Nat) : Int) + 1)), rfl, (by omega), hpn, (by simp; exact i1_2), (by simp; exact i1_3), hpn.s0, (fun hp => absurd (press_free (ivs_of hR) i1_1 hnl hfr (hp n hlt)) hqk), rfl⟩ ⟨sub_of kr kr ⟨iiC_b, inC_b, inC_b, brn, bk_flat (tab inC (((rg).set n r9).set q (-1))) kr (tab_plain inC_pl _) (by rfl), inC_b, ivC_b, brn, ⟨⟩⟩, te_of kr kr⟩ kr)
 ·skip
  obtain rfl : n = c.length := by omega
  refine sd_run 3 (sdF 41 ((c.length : Int) < (c.length : Int)) (by omega) kr (sd_run 20 ?_))
  refine sdZ (.tuple #[.agg #[.slice (some ⟨6, 0, none⟩) c.length c.length, .slice (some ⟨8, 0, none⟩) c.length c.length, .int .i64 slots], .int .i64 0]) hX (.tuple #[.agg #[.slice (some ⟨3, 0, none⟩) c.length c.length, .slice (some ⟨4, 0, none⟩) c.length c.length, .int .i64 slots], .int .i64 0]) [(iiCo c false), (inCo od false), (inCo rd false), (inCo rg false), (inCo sl false)] [some 0, some 1, some 2, some 6, some 8] ⟨iiC_b, inC_b, inC_b, inC_b, inC_b, ⟨⟩⟩ ⟨rg, sl, slots, i1_1, i1_5, rfl, rfl⟩
end Ls
end Go.Proofs.Ytegjicaoemhhlaa
