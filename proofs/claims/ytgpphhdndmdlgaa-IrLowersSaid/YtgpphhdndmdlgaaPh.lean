/- Chapter 19: IrLowers. -/
import Derived.Test.YtgpphhdndmdlgaaPg
namespace Go.Proofs.Ytgpphhdndmdlgaa
open Go Go.Ev Go.RowKit
set_option linter.unusedVariables false
set_option linter.unusedSimpArgs false
set_option maxRecDepth 100000
namespace Ls
noncomputable def f3b : Code := Try.f3.body.getD .skip
theorem f3_body : Try.f3.body = some f3b := by kernel_rfl
theorem f3_fn : T20.fn 3 = some Try.f3 := by kernel_rfl
set_option maxHeartbeats 4000000 in
theorem irlowers_s {pc en : Int} {xl xv : List Int} {q : Sx} {d r : List Int} (hpc : 0 ≤ pc ∧ pc < 4294967296) (hen : i64B en = true) (h1 : ∀ x ∈ xl, i64B x = true) (h2 : ∀ x ∈ xv, 0 ≤ x ∧ x < 4294967296) (hl1 : xl.length ≤ 9223372036854775807) (hl2 : xv.length ≤ 9223372036854775807) (hd32 : V32 d) (hr32 : V32 r) (hdb : d.length * 4 ≤ 140737488355328) (hrb : r.length * 4 ≤ 140737488355328) (hfl : 0 ≤ q.fl ∧ q.fl < 4294967296) (hcn : 0 ≤ q.cnt ∧ q.cnt < 18446744073709551616) : SCall Try.prog T20 3 #[.int .u32 pc, (s1 0 xl.length), (s1 1 xv.length), .int .i64 en, (stq q q.pc (s1 2 d.length) (s1 3 r.length) q.fl q.cnt)] (hq [(inCo xl true), (uCo xv true), (uCo d true), (uCo r true)]) fun v h => v = .bool true ∧ h = hq [(inCo xl true), (uCo xv true), (uCo d true), (uCo r true)] := by
 have hfl9 := tm16 hfl
 have hcn9 := tm40 hcn
 refine scall_sd 84 _ 4 kr f3_fn f3_body rfl rfl rfl fun X hX => ?_
 refine sd_run 18 ?_
 obtain ⟨N1, hN1⟩ : ∃ N, N = min (min xl.length xv.length) 7 := ⟨_, rfl⟩
 refine sd_loop 84 (cl (cl (cr (cl (cr (cr f3b)))))) [.blk 0, .next (cr (cr (cr f3b)))] kr kr kr (fun m9 s9 => ∃ (k : Nat) (m : List (Int × Int)), m9 = N1 - k ∧ (k ≤ N1) ∧ (Mid m) ∧ (m.length = k) ∧ s9 = ⟨tmL [(0, .int .u32 pc), (1, (s1 0 xl.length)), (2, (s1 1 xv.length)), (3, .int .i64 en), (9, .pointer (some ⟨4, 0, none⟩)), (11, (s2 5 m.length)), (12, .int .i64 (k : Int))], hq [(inCo xl true), (uCo xv true), (uCo d true), (uCo r true), some ⟨(slq q q.pc (s1 2 d.length) (s1 3 r.length) q.fl q.cnt), 27, false⟩, (jjCo m false)]⟩) (N1 - 0) _ (emOf [some 0, some 1, some 2, some 3, some 4, none]) hX ⟨0, [], rfl, (by omega), mid_nil, rfl, rfl⟩ ⟨sub_of kr kr ⟨inC_b, uC_b, uC_b, uC_b, brn, rfl, ⟨⟩⟩, te_of kr kr⟩ kr ?_
 rintro m9 s9 ⟨k, m, rfl, i1_0, i1_1, i1_2, rfl⟩ R1_ hR1_
 by_cases hlt : k < N1
 ·skip
  obtain ⟨a1, ha1⟩ : ∃ x_, (xl)[k]? = some x_ := ⟨_, List.getElem?_eq_getElem (by omega)⟩
  have ia1 := i64_in h1 ha1
  obtain ⟨a2, ha2⟩ : ∃ x_, (xv)[k]? = some x_ := ⟨_, List.getElem?_eq_getElem (by omega)⟩
  have ia2 := h2 _ (List.mem_of_getElem? ha2)
  refine sd_run 7 (sdT 17 ((k : Int) < (xl.length : Int)) (by omega) kr (sd_run 5 (sdT 22 ((k : Int) < (xv.length : Int)) (by omega) kr (sd_run 4 (sdT 26 ((k : Int) < 7) (by omega) kr (sd_run 12 (sd_ix 33 (.pointer (some ⟨0, 0 + k * 1, none⟩)) k xl.length kr kr kr (by omega) ?_)))))))
  refine sd_ld 34 (.int .i64 a1) 3 (.pointer (some ⟨0, 0 + k * 1, none⟩)) kr kr kr (ld_cell (l := xl) (e := 3) (ro := true) (k := k) (j := 0) inC_len kr kr kr ha1 rfl) (sd_run 2 (sd_ix 37 (.pointer (some ⟨1, 0 + k * 1, none⟩)) k xv.length kr kr kr (by omega) (sd_ld 38 (.int .u32 a2) 22 (.pointer (some ⟨1, 0 + k * 1, none⟩)) kr kr kr (ld_cell (l := xv) (e := 22) (ro := true) (k := k) (j := 0) uC_len kr kr kr ha2 rfl) (sdCp 39 7 #[.int .i64 a1, .int .u32 a2, .bool false] (@plainK_s a1 a2 false ia1 ia2) [] True.intro ?_))))
  rintro v9 k9 ⟨o12_, n12_, q3_0, q3_1, q3_2, q3_3, rfl, rfl⟩
  refine ⟨rfl, .agg #[.int .i64 o12_, .int .u32 n12_], kr, ?_⟩
  refine sd_run 1 (sd_grow 41 28 28 30 1 15 5 m.length 1 7 (.slice (some ⟨6, 0, none⟩) 1 1) (tab jjC m) [Value.int .i64 o12_, .int .u32 n12_] (tab jjC (m ++ [(o12_, n12_)])) kr kr kr kr kr ((tab_len jjC_len _).trans (by first | rfl | (simp only [List.length_append, List.length_cons, List.length_nil, List.length_set] at *; done))) kr kr (by decide) kr (by omega) kr (tab_snoc m (o12_, n12_)) (sd_see 41 (s2 7 ((m ++ [(o12_, n12_)]).length)) (see_len (n := (m.length + 1)) kr (by simp)) (sd_run 7 (sd_see 29 (.int .i64 ((k + 1 : Nat) : Int)) (see_int (x := (IntKind.i64.wrap ((k : Int) + 1))) kr (w64 (by omega) (by omega) (by omega))) (sd_run 2 ?_)))))
  refine sd_inv R1_ kr (hR1_ _ (N1 - (k + 1)) _ (emOf [some 0, some 1, some 2, some 3, some 4, some 7]) (by omega) ⟨k + 1, (m ++ [(o12_, n12_)]), rfl, (by omega), (i1_1.snoc q3_0 q3_1 q3_2 (q3_3 rfl)), (by simp; omega), rfl⟩ ⟨sub_of kr kr ⟨inC_b, uC_b, uC_b, uC_b, brn, jjC_b, ⟨⟩⟩, te_of kr kr⟩ kr)
 ·skip
  obtain rfl : k = N1 := by omega
  refine sd_run 2 (sd_mid 84 (cl (cl (cl (cl (cr (cl (cr (cr f3b)))))))) [.next (cr (cl (cl (cl (cr (cl (cr (cr f3b)))))))), .next (cr (cl (cl (cr (cl (cr (cr f3b))))))), .inv R1_, .blk 0, .next (cr (cr (cr f3b)))] kr kr kr (fun s9 => s9 = ⟨tmL [(0, .int .u32 pc), (1, (s1 0 xl.length)), (2, (s1 1 xv.length)), (3, .int .i64 en), (9, .pointer (some ⟨4, 0, none⟩)), (11, (s2 5 m.length)), (12, .int .i64 (k : Int)), (27, .bool false)], hq [(inCo xl true), (uCo xv true), (uCo d true), (uCo r true), some ⟨(slq q q.pc (s1 2 d.length) (s1 3 r.length) q.fl q.cnt), 27, false⟩, (jjCo m false)]⟩) hX ?_ ?_)
  ·intro R2_ hR2_
   rcases (by omega : k = xl.length ∨ (k < xl.length ∧ k = xv.length) ∨ (k < xl.length ∧ k < xv.length ∧ k = 7)) with hq | hq | hq
   ·skip
    refine sd_run 5 (sdF 17 ((k : Int) < (xl.length : Int)) (by omega) kr (sd_run 11 ?_))
    refine sd_inv R2_ kr (hR2_ _ _ e6_ rfl ⟨sub_of kr kr ⟨inC_b, uC_b, uC_b, uC_b, brn, jjC_b, ⟨⟩⟩, te_of kr kr⟩ kr)
   ·skip
    refine sd_run 5 (sdT 17 ((k : Int) < (xl.length : Int)) (by omega) kr (sd_run 5 (sdF 22 ((k : Int) < (xv.length : Int)) (by omega) kr (sd_run 6 ?_))))
    refine sd_inv R2_ kr (hR2_ _ _ e6_ rfl ⟨sub_of kr kr ⟨inC_b, uC_b, uC_b, uC_b, brn, jjC_b, ⟨⟩⟩, te_of kr kr⟩ kr)
   ·skip
    refine sd_run 5 (sdT 17 ((k : Int) < (xl.length : Int)) (by omega) kr (sd_run 5 (sdT 22 ((k : Int) < (xv.length : Int)) (by omega) kr (sd_run 4 (sdF 26 ((k : Int) < 7) (by omega) kr (sd_run 2 ?_))))))
    refine sd_inv R2_ kr (hR2_ _ _ e6_ rfl ⟨sub_of kr kr ⟨inC_b, uC_b, uC_b, uC_b, brn, jjC_b, ⟨⟩⟩, te_of kr kr⟩ kr)
  ·rintro s9 rfl
   refine sd_run 8 (sd_mid 84 (cl (cr (cr (cr f3b)))) [.next (cr (cr (cr (cr f3b))))] kr kr kr (fun s9 => ∃ (m2 : List (Int × Int)), (LowI m2) ∧ s9 = ⟨tmL [(0, .int .u32 pc), (3, .int .i64 en), (9, .pointer (some ⟨4, 0, none⟩)), (11, (s2 10 m2.length))], hq [(inCo xl true), (uCo xv true), (uCo d true), (uCo r true), some ⟨(slq q q.pc (s1 2 d.length) (s1 3 r.length) q.fl q.cnt), 27, false⟩, none, none, none, none, none, (jjCo m2 false)]⟩) hX ?_ ?_)
   ·intro R3_ hR3_
    refine sd_run 7 ?_
    rcases Bool.eq_false_or_eq_true (decide (((Int.tmod en 3) : Int) > 0)) with hc4 | hc4
    ·skip
     refine sd_see 44 (.bool true) (see_bool kr hc4) (sd_run 5 (sdCp 48 7 #[.int .i64 en, .int .u32 pc, .bool true] (@plainK_s en pc true hen hpc) [] True.intro ?_))
     rintro v9 k9 ⟨o14_, n14_, q5_0, q5_1, q5_2, q5_3, rfl, rfl⟩
     refine ⟨rfl, .agg #[.int .i64 o14_, .int .u32 n14_], kr, ?_⟩
     refine sd_run 1 (sd_grow 50 28 28 30 1 15 5 m.length 1 7 (.slice (some ⟨6, 0, none⟩) 1 1) (tab jjC m) [Value.int .i64 o14_, .int .u32 n14_] (tab jjC (m ++ [(o14_, n14_)])) kr kr kr kr kr ((tab_len jjC_len _).trans (by first | rfl | (simp only [List.length_append, List.length_cons, List.length_nil, List.length_set] at *; done))) kr kr (by decide) kr (by omega) kr (tab_snoc m (o14_, n14_)) (sd_see 50 (s2 7 ((m ++ [(o14_, n14_)]).length)) (see_len (n := (m.length + 1)) kr (by simp)) (sd_run 2 ?_)))
     refine sd_inv R3_ kr (hR3_ _ _ (emOf [some 0, some 1, some 2, some 3, some 4, none, none, none, none, none, some 7]) ⟨(m ++ [(o14_, n14_)]), (i1_1.low_last (by omega) q5_0 q5_1 q5_2), rfl⟩ ⟨sub_of kr kr ⟨inC_b, uC_b, uC_b, uC_b, brn, jjC_b, ⟨⟩⟩, te_of kr kr⟩ kr)
    ·skip
     refine sd_see 44 (.bool false) (see_bool kr hc4) (sd_run 2 ?_)
     refine sd_inv R3_ kr (hR3_ _ _ (emOf [some 0, some 1, some 2, some 3, some 4, none, none, none, none, none, some 5]) ⟨m, (i1_1.low (by omega)), rfl⟩ ⟨sub_of kr kr ⟨inC_b, uC_b, uC_b, uC_b, brn, jjC_b, ⟨⟩⟩, te_of kr kr⟩ kr)
   ·rintro s9 ⟨m2, j3_0, rfl⟩
    refine sd_run 4 (sdC 52 8 #[(stq q q.pc (s1 2 d.length) (s1 3 r.length) q.fl q.cnt)] (@trim_s q d [] r [] true hdb hrb) [some 2, some 3] ⟨bk_flat (tab uC d) kr (tab_plain uC_pl _) (congrArg (tab uC) (List.append_nil _).symm), bk_flat (tab uC r) kr (tab_plain uC_pl _) (congrArg (tab uC) (List.append_nil _).symm), ⟨⟩⟩ ?_)
    rintro hn9 v9 k9 ⟨rfl, rfl⟩
    refine mkG (stq q q.pc (s1 11 ((d.take 16).length)) (s1 12 ((r.take 16).length)) (Int.tmod q.fl 16) (Int.tmod q.cnt 1099511627776)) [(inCo xl true), (uCo xv true), (uCo d true), (uCo r true), some ⟨(slq q q.pc (s1 2 d.length) (s1 3 r.length) q.fl q.cnt), 27, false⟩, none, none, none, none, none, (jjCo m2 false), (uCo (d.take 16 ++ d.drop 16) false), (uCo (r.take 16 ++ r.drop 16) false)] ⟨cvo, cvo, cvs 0 hn9, cvs 1 hn9, cvo, cvo, uC_c 2, uC_c 3, ⟨⟩⟩ ?_
    refine sd_run 12 ?_
    have htl : (d.take 16).length = min 16 d.length := List.length_take
    by_cases h9 : d.length < 9
    ·skip
     refine sd_run 8 (sd_see 57 (.bool true) (see_bool (x := (decide (((d.take 16).length : Int) < 9))) kr (decide_eq_true (by omega))) (sd_run 6 (sd_drawP kr ?_)))
     refine svp_go 3 ?_
     refine svp_line ?_
     refine sv_first0N 61 24 24 22 0 3 14 ((d.take 16).length) 15 (s1 11 ((d.take 16).length)) (tab uC (d.take 16)) (tab uC (d.take 16)) kr kr kr kr kr (asrc_part (a := d.take 16) (b_ := d.drop 16) (e := 22) (ro := false) uC_len kr rfl) kr (by omega) kr rfl kr kr ?_
     refine sv_run 1 ?_
     refine sv_rd 63 (s1 11 ((d.take 16).length)) 24 13 1 kr kr kr kr (veq_slice _ _ _) kr ?_
     refine sv_run 5 ?_
     refine sv_grow 69 24 24 22 0 3 15 ((d.take 16).length) 1 17 (.slice (some ⟨16, 0, none⟩) 1 1) (tab uC (d.take 16)) [Value.int .u32 (IntKind.u32.wrap ((IntKind.u32.wrap ((d.take 16).length : Int)) * pc))] (tab uC (d.take 16 ++ [(IntKind.u32.wrap ((IntKind.u32.wrap ((d.take 16).length : Int)) * pc))])) kr kr kr kr kr ((tab_len uC_len _).trans (by first | rfl | (simp only [List.length_append, List.length_cons, List.length_nil, List.length_set] at *; done))) kr kr (by decide) kr (by omega) kr (tab_snoc (d.take 16) (IntKind.u32.wrap ((IntKind.u32.wrap ((d.take 16).length : Int)) * pc))) kr ?_
     refine sv_see 69 (s1 17 ((d.take 16 ++ [(IntKind.u32.wrap ((IntKind.u32.wrap ((d.take 16).length : Int)) * pc))]).length)) (see_len (n := ((d.take 16).length + 1)) kr (by simp)) ?_
     refine sv_run 2 ?_
     refine sv_end kr ?_
     refine sd_run 2 (sd_loop 84 (cl (cl (cl (cr (cr (cr (cr (cr (cr f3b))))))))) [.blk 2, .next (cr (cr (cr (cr (cr (cr (cr f3b)))))))] kr kr kr (fun m9 s9 => ∃ (D : List Int) (jD : List Int), m9 = 9 - D.length ∧ (D.length ≤ 9) ∧ (V32 D) ∧ s9 = ⟨tmL [(0, .int .u32 pc), (9, .pointer (some ⟨4, 0, none⟩)), (11, (s2 10 m2.length)), (13, .pointer (some ⟨13, 0, none⟩))], hq [(inCo xl true), (uCo xv true), (uCo d true), (uCo r true), some ⟨(slq q q.pc (s1 11 ((d.take 16).length)) (s1 12 ((r.take 16).length)) (Int.tmod q.fl 16) (Int.tmod q.cnt 1099511627776)), 27, false⟩, none, none, none, none, none, (jjCo m2 false), (uCo (d.take 16 ++ d.drop 16) false), (uCo (r.take 16 ++ r.drop 16) false), some ⟨(slq q q.pc (s1 17 D.length) (s1 12 ((r.take 16).length)) (Int.tmod q.fl 16) (Int.tmod q.cnt 1099511627776)), 27, false⟩, none, none, none, (uCo (D ++ jD) false)]⟩) (9 - (d.take 16 ++ [(IntKind.u32.wrap ((IntKind.u32.wrap ((d.take 16).length : Int)) * pc))]).length) _ (emOf [some 0, some 1, some 2, some 3, some 4, none, none, none, none, none, some 10, some 11, some 12, some 13, none, none, none, some 17]) hX ⟨(d.take 16 ++ [(IntKind.u32.wrap ((IntKind.u32.wrap ((d.take 16).length : Int)) * pc))]), [], rfl, (by simp; omega), (V32.app (hd32.take 16) (.one (u32_wrap_in _))), rfl⟩ ⟨sub_of kr kr ⟨inC_b, uC_b, uC_b, uC_b, brn, jjC_b, uC_b, uC_b, brn, bk_flat (tab uC (d.take 16 ++ [(IntKind.u32.wrap ((IntKind.u32.wrap ((d.take 16).length : Int)) * pc))])) kr (tab_plain uC_pl _) (congrArg (tab uC) (List.append_nil _).symm), ⟨⟩⟩, te_of kr kr⟩ kr ?_)
     rintro m9 s9 ⟨D, jD, rfl, i4_0, i4_1, rfl⟩ R4_ hR4_
     by_cases h9 : D.length < 9
     ·skip
      refine sd_run 7 (sdT 57 ((D.length : Int) < 9) (by omega) kr (sd_run 6 (sd_drawP kr ?_)))
      refine svp_go 3 ?_
      refine svp_line ?_
      refine sv_first0N 61 24 24 22 0 3 18 D.length 19 (s1 17 D.length) (tab uC D) (tab uC D) kr kr kr kr kr (asrc_part (a := D) (b_ := jD) (e := 22) (ro := false) uC_len kr rfl) kr (by omega) kr rfl kr kr ?_
      refine sv_run 1 ?_
      refine sv_rd 63 (s1 17 D.length) 24 13 1 kr kr kr kr (veq_slice _ _ _) kr ?_
      refine sv_run 5 ?_
      refine sv_grow 69 24 24 22 0 3 19 D.length 1 21 (.slice (some ⟨20, 0, none⟩) 1 1) (tab uC D) [Value.int .u32 (IntKind.u32.wrap ((IntKind.u32.wrap (D.length : Int)) * pc))] (tab uC (D ++ [(IntKind.u32.wrap ((IntKind.u32.wrap (D.length : Int)) * pc))])) kr kr kr kr kr ((tab_len uC_len _).trans (by first | rfl | (simp only [List.length_append, List.length_cons, List.length_nil, List.length_set] at *; done))) kr kr (by decide) kr (by omega) kr (tab_snoc D (IntKind.u32.wrap ((IntKind.u32.wrap (D.length : Int)) * pc))) kr ?_
      refine sv_see 69 (s1 21 ((D ++ [(IntKind.u32.wrap ((IntKind.u32.wrap (D.length : Int)) * pc))]).length)) (see_len (n := (D.length + 1)) kr (by simp)) ?_
      refine sv_run 2 ?_
      refine sv_end kr ?_
      refine sd_run 1 ?_
      have hL9 : (D ++ [(IntKind.u32.wrap ((IntKind.u32.wrap (D.length : Int)) * pc))]).length = D.length + 1 := by simp
      refine sd_inv R4_ kr (hR4_ _ (9 - (D ++ [(IntKind.u32.wrap ((IntKind.u32.wrap (D.length : Int)) * pc))]).length) _ (emOf [some 0, some 1, some 2, some 3, some 4, none, none, none, none, none, some 10, some 11, some 12, some 13, none, none, none, some 21]) (by omega) ⟨(D ++ [(IntKind.u32.wrap ((IntKind.u32.wrap (D.length : Int)) * pc))]), [], rfl, (by omega), (V32.app i4_1 (.one (u32_wrap_in _))), rfl⟩ ⟨sub_of kr kr ⟨inC_b, uC_b, uC_b, uC_b, brn, jjC_b, uC_b, uC_b, brn, bk_flat (tab uC (D ++ [(IntKind.u32.wrap ((IntKind.u32.wrap (D.length : Int)) * pc))])) kr (tab_plain uC_pl _) (congrArg (tab uC) (List.append_nil _).symm), ⟨⟩⟩, te_of kr kr⟩ kr)
     ·skip
      have hD32 := i4_1
      refine sd_run 7 (sdF 57 ((D.length : Int) < 9) (by omega) kr (sd_run 13 (sdCp 74 9 #[.int .u32 pc, (s2 10 m2.length), (stq q q.pc (s1 11 ((d.take 16).length)) (s1 12 ((r.take 16).length)) (Int.tmod q.fl 16) (Int.tmod q.cnt 1099511627776))] (@lowers_any m2 pc (unk + 2) (⟨q.pc, (Int.tmod q.fl 16), q.root, q.vec, q.epc, q.cause, q.addr, (Int.tmod q.cnt 1099511627776), q.su, q.pg, q.ie, q.es, q.ei, q.ha⟩ : Sx) (d.take 16) (d.drop 16) (r.take 16) (r.drop 16) false j3_0 (by simp; omega) (by simp; omega) (hd32.take 16) (hr32.take 16) hfl9 hcn9) [some 10, some 11, some 12] ⟨jjC_b, bk_flat (tab uC (d.take 16 ++ d.drop 16)) kr (tab_plain uC_pl _) (by rfl), bk_flat (tab uC (r.take 16 ++ r.drop 16)) kr (tab_plain uC_pl _) (by rfl), ⟨⟩⟩ ?_)))
      rintro v9 k9 ⟨rfl, rfl⟩
      refine ⟨rfl, .bool true, kr, ?_⟩
      refine sd_run 4 (sdCp 79 9 #[.int .u32 pc, (s2 10 m2.length), (stq q q.pc (s1 17 D.length) (s1 12 ((r.take 16).length)) (Int.tmod q.fl 16) (Int.tmod q.cnt 1099511627776))] (@lowers_any m2 pc (unk + 2) (⟨q.pc, (Int.tmod q.fl 16), q.root, q.vec, q.epc, q.cause, q.addr, (Int.tmod q.cnt 1099511627776), q.su, q.pg, q.ie, q.es, q.ei, q.ha⟩ : Sx) D jD (r.take 16) (r.drop 16) false j3_0 (by omega) (by simp; omega) hD32 (hr32.take 16) hfl9 hcn9) [some 10, some 17, some 12] ⟨jjC_b, uC_b, bk_flat (tab uC (r.take 16 ++ r.drop 16)) kr (tab_plain uC_pl _) (by rfl), ⟨⟩⟩ ?_)
      rintro v9 k9 ⟨rfl, rfl⟩
      refine ⟨rfl, .bool true, kr, ?_⟩
      refine sd_run 2 (sd_ask 82 (.bool true) 10 #[] kr kr kr rfl (sd_run 5 ?_))
      refine sdY (.bool true) hX [(inCo xl true), (uCo xv true), (uCo d true), (uCo r true)] i4_ ⟨inC_b, uC_b, uC_b, uC_b, ⟨⟩⟩ ⟨rfl, rfl⟩
    ·skip
     refine sd_run 8 (sd_see 57 (.bool false) (see_bool (x := (decide (((d.take 16).length : Int) < 9))) kr (decide_eq_false (by omega))) (sd_run 13 (sdCp 74 9 #[.int .u32 pc, (s2 10 m2.length), (stq q q.pc (s1 11 ((d.take 16).length)) (s1 12 ((r.take 16).length)) (Int.tmod q.fl 16) (Int.tmod q.cnt 1099511627776))] (@lowers_any m2 pc (unk + 2) (⟨q.pc, (Int.tmod q.fl 16), q.root, q.vec, q.epc, q.cause, q.addr, (Int.tmod q.cnt 1099511627776), q.su, q.pg, q.ie, q.es, q.ei, q.ha⟩ : Sx) (d.take 16) (d.drop 16) (r.take 16) (r.drop 16) false j3_0 (by simp; omega) (by simp; omega) (hd32.take 16) (hr32.take 16) hfl9 hcn9) [some 10, some 11, some 12] ⟨jjC_b, bk_flat (tab uC (d.take 16 ++ d.drop 16)) kr (tab_plain uC_pl _) (by rfl), bk_flat (tab uC (r.take 16 ++ r.drop 16)) kr (tab_plain uC_pl _) (by rfl), ⟨⟩⟩ ?_)))
     rintro v9 k9 ⟨rfl, rfl⟩
     refine ⟨rfl, .bool true, kr, ?_⟩
     refine sd_run 4 (sdCp 79 9 #[.int .u32 pc, (s2 10 m2.length), (stq q q.pc (s1 11 ((d.take 16).length)) (s1 12 ((r.take 16).length)) (Int.tmod q.fl 16) (Int.tmod q.cnt 1099511627776))] (@lowers_any m2 pc (unk + 2) (⟨q.pc, (Int.tmod q.fl 16), q.root, q.vec, q.epc, q.cause, q.addr, (Int.tmod q.cnt 1099511627776), q.su, q.pg, q.ie, q.es, q.ei, q.ha⟩ : Sx) (d.take 16) (d.drop 16) (r.take 16) (r.drop 16) false j3_0 (by simp; omega) (by simp; omega) (hd32.take 16) (hr32.take 16) hfl9 hcn9) [some 10, some 11, some 12] ⟨jjC_b, bk_flat (tab uC (d.take 16 ++ d.drop 16)) kr (tab_plain uC_pl _) (by rfl), bk_flat (tab uC (r.take 16 ++ r.drop 16)) kr (tab_plain uC_pl _) (by rfl), ⟨⟩⟩ ?_)
     rintro v9 k9 ⟨rfl, rfl⟩
     refine ⟨rfl, .bool true, kr, ?_⟩
     refine sd_run 2 (sd_ask 82 (.bool true) 10 #[] kr kr kr rfl (sd_run 5 ?_))
     refine sdY (.bool true) hX [(inCo xl true), (uCo xv true), (uCo d true), (uCo r true)] i4_ ⟨inC_b, uC_b, uC_b, uC_b, ⟨⟩⟩ ⟨rfl, rfl⟩
end Ls
end Go.Proofs.Ytgpphhdndmdlgaa
