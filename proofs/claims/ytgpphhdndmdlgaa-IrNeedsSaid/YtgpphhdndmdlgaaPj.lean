/- Chapter 19: IrNeeds. -/
import Derived.Test.YtgpphhdndmdlgaaPk
namespace Go.Proofs.Ytgpphhdndmdlgaa
open Go Go.Ev Go.RowKit
set_option linter.unusedVariables false
set_option linter.unusedSimpArgs false
set_option maxRecDepth 100000
namespace Ls
theorem V32.rep (n : Nat) : V32 (List.replicate n 0) := fun x hx => by
 have := List.eq_of_mem_replicate hx
 subst this; exact ⟨Int.le_refl _, by decide⟩
theorem not_fit {nd nr hd hr : Int} {d r : List Int} {fl : Int} (h : fitsB nd nr hd hr d r fl = false) (h1 : d.length ≤ 16) (h2 : r.length ≤ 16) (h3 : fl ≤ 15) : ¬ ((nd ≤ (d.length : Int) ∧ (d.length : Int) + hd ≤ 16) ∧ nr ≤ (r.length : Int) ∧ (r.length : Int) + hr ≤ 16) := fun q => by
 rw [fitsB_iff.2 ⟨⟨h1, h2, h3⟩, by omega, by omega⟩] at h; cases h
noncomputable def f6b : Code := Try.f6.body.getD .skip
theorem f6_body : Try.f6.body = some f6b := by kernel_rfl
theorem f6_fn : T20.fn 6 = some Try.f6 := by kernel_rfl
set_option maxHeartbeats 8000000 in
theorem irneeds_s {pc : Int} {xl xv : List Int} (hpc : 0 ≤ pc ∧ pc < 4294967296) (h1 : ∀ x ∈ xl, i64B x = true) (h2 : ∀ x ∈ xv, 0 ≤ x ∧ x < 4294967296) (hl1 : xl.length ≤ 9223372036854775807) (hl2 : xv.length ≤ 9223372036854775807) : SCall Try.prog T20 6 #[.int .u32 pc, (s1 0 xl.length), (s1 1 xv.length)] (hq [(inCo xl true), (uCo xv true)]) fun v h => v = .bool true ∧ h = hq [(inCo xl true), (uCo xv true)] := by
 refine scall_sd 129 _ 2 kr f6_fn f6_body rfl rfl rfl fun X hX => ?_
 refine sd_run 17 ?_
 obtain ⟨N1, hN1⟩ : ∃ N, N = min (min xl.length xv.length) 7 := ⟨_, rfl⟩
 refine sd_loop 129 (cl (cl (cr (cl (cr (cr f6b)))))) [.blk 0, .next (cr (cr (cr f6b)))] kr kr kr (fun m9 s9 => ∃ (k : Nat) (m : List (Int × Int)), m9 = N1 - k ∧ (k ≤ N1) ∧ (Mid m) ∧ (m.length = k) ∧ s9 = ⟨tmL [(0, .int .u32 pc), (1, (s1 0 xl.length)), (2, (s1 1 xv.length)), (7, (s2 2 m.length)), (8, .int .i64 (k : Int))], hq [(inCo xl true), (uCo xv true), (jjCo m false)]⟩) (N1 - 0) _ (emOf [some 0, some 1, none]) hX ⟨0, [], rfl, (by omega), mid_nil, rfl, rfl⟩ ⟨sub_of kr kr ⟨inC_b, uC_b, rfl, ⟨⟩⟩, te_of kr kr⟩ kr ?_
 rintro m9 s9 ⟨k, m, rfl, i1_0, i1_1, i1_2, rfl⟩ R1_ hR1_
 by_cases hlt : k < N1
 ·skip
  obtain ⟨a1, ha1⟩ : ∃ x_, (xl)[k]? = some x_ := ⟨_, List.getElem?_eq_getElem (by omega)⟩
  have ia1 := i64_in h1 ha1
  obtain ⟨a2, ha2⟩ : ∃ x_, (xv)[k]? = some x_ := ⟨_, List.getElem?_eq_getElem (by omega)⟩
  have ia2 := h2 _ (List.mem_of_getElem? ha2)
  refine sd_run 7 (sdT 21 ((k : Int) < (xl.length : Int)) (by omega) kr (sd_run 5 (sdT 26 ((k : Int) < (xv.length : Int)) (by omega) kr (sd_run 4 (sdT 30 ((k : Int) < 7) (by omega) kr (sd_run 12 (sd_ix 37 (.pointer (some ⟨0, 0 + k * 1, none⟩)) k xl.length kr kr kr (by omega) ?_)))))))
  refine sd_ld 38 (.int .i64 a1) 3 (.pointer (some ⟨0, 0 + k * 1, none⟩)) kr kr kr (ld_cell (l := xl) (e := 3) (ro := true) (k := k) (j := 0) inC_len kr kr kr ha1 rfl) (sd_run 2 (sd_ix 41 (.pointer (some ⟨1, 0 + k * 1, none⟩)) k xv.length kr kr kr (by omega) (sd_ld 42 (.int .u32 a2) 22 (.pointer (some ⟨1, 0 + k * 1, none⟩)) kr kr kr (ld_cell (l := xv) (e := 22) (ro := true) (k := k) (j := 0) uC_len kr kr kr ha2 rfl) (sdCp 43 7 #[.int .i64 a1, .int .u32 a2, .bool false] (@plainK_s a1 a2 false ia1 ia2) [] True.intro ?_))))
  rintro v9 k9 ⟨o12_, n12_, q3_0, q3_1, q3_2, q3_3, rfl, rfl⟩
  refine ⟨rfl, .agg #[.int .i64 o12_, .int .u32 n12_], kr, ?_⟩
  refine sd_run 1 (sd_grow 45 28 28 30 1 15 2 m.length 1 4 (.slice (some ⟨3, 0, none⟩) 1 1) (tab jjC m) [Value.int .i64 o12_, .int .u32 n12_] (tab jjC (m ++ [(o12_, n12_)])) kr kr kr kr kr ((tab_len jjC_len _).trans (by first | rfl | (simp only [List.length_append, List.length_cons, List.length_nil, List.length_set] at *; done))) kr kr (by decide) kr (by omega) kr (tab_snoc m (o12_, n12_)) (sd_see 45 (s2 4 ((m ++ [(o12_, n12_)]).length)) (see_len (n := (m.length + 1)) kr (by simp)) (sd_run 7 (sd_see 33 (.int .i64 ((k + 1 : Nat) : Int)) (see_int (x := (IntKind.i64.wrap ((k : Int) + 1))) kr (w64 (by omega) (by omega) (by omega))) (sd_run 2 ?_)))))
  refine sd_inv R1_ kr (hR1_ _ (N1 - (k + 1)) _ (emOf [some 0, some 1, some 4]) (by omega) ⟨k + 1, (m ++ [(o12_, n12_)]), rfl, (by omega), (i1_1.snoc q3_0 q3_1 q3_2 (q3_3 rfl)), (by simp; omega), rfl⟩ ⟨sub_of kr kr ⟨inC_b, uC_b, jjC_b, ⟨⟩⟩, te_of kr kr⟩ kr)
 ·skip
  obtain rfl : k = N1 := by omega
  refine sd_run 2 (sd_mid 129 (cl (cl (cl (cl (cr (cl (cr (cr f6b)))))))) [.next (cr (cl (cl (cl (cr (cl (cr (cr f6b)))))))), .next (cr (cl (cl (cr (cl (cr (cr f6b))))))), .inv R1_, .blk 0, .next (cr (cr (cr f6b)))] kr kr kr (fun s9 => s9 = ⟨tmL [(0, .int .u32 pc), (1, (s1 0 xl.length)), (2, (s1 1 xv.length)), (7, (s2 2 m.length)), (8, .int .i64 (k : Int)), (31, .bool false)], hq [(inCo xl true), (uCo xv true), (jjCo m false)]⟩) hX ?_ ?_)
  ·intro R2_ hR2_
   rcases (by omega : k = xl.length ∨ (k < xl.length ∧ k = xv.length) ∨ (k < xl.length ∧ k < xv.length ∧ k = 7)) with hq | hq | hq
   ·skip
    refine sd_run 5 (sdF 21 ((k : Int) < (xl.length : Int)) (by omega) kr (sd_run 11 ?_))
    refine sd_inv R2_ kr (hR2_ _ _ e3_ rfl ⟨sub_of kr kr ⟨inC_b, uC_b, jjC_b, ⟨⟩⟩, te_of kr kr⟩ kr)
   ·skip
    refine sd_run 5 (sdT 21 ((k : Int) < (xl.length : Int)) (by omega) kr (sd_run 5 (sdF 26 ((k : Int) < (xv.length : Int)) (by omega) kr (sd_run 6 ?_))))
    refine sd_inv R2_ kr (hR2_ _ _ e3_ rfl ⟨sub_of kr kr ⟨inC_b, uC_b, jjC_b, ⟨⟩⟩, te_of kr kr⟩ kr)
   ·skip
    refine sd_run 5 (sdT 21 ((k : Int) < (xl.length : Int)) (by omega) kr (sd_run 5 (sdT 26 ((k : Int) < (xv.length : Int)) (by omega) kr (sd_run 4 (sdF 30 ((k : Int) < 7) (by omega) kr (sd_run 2 ?_))))))
    refine sd_inv R2_ kr (hR2_ _ _ e3_ rfl ⟨sub_of kr kr ⟨inC_b, uC_b, jjC_b, ⟨⟩⟩, te_of kr kr⟩ kr)
  ·rintro s9 rfl
   refine sd_run 9 ?_
   by_cases hm0 : m.length = 0
   ·skip
    refine sd_run 4 (sdE 48 (m.length : Int) 0 (by omega) kr (sd_run 5 (sd_ask 49 (.bool true) 10 #[] kr kr kr rfl (sd_run 5 ?_))))
    refine sdY (.bool true) hX [(inCo xl true), (uCo xv true)] i2_ ⟨inC_b, uC_b, ⟨⟩⟩ ⟨rfl, rfl⟩
   ·skip
    have hok : OkIns m := i1_1.ok (by omega) (by omega)
    have hni := i1_1.imm
    refine sd_run 4 (sdN 48 (m.length : Int) 0 (by omega) kr (sd_run 9 (sdC 53 11 #[.int .u32 pc, (s2 2 m.length)] (@lower_s m pc (unk + 2) hok (low_b hok hni) (low_right hok hni)) [some 2] ⟨jjC_b, ⟨⟩⟩ ?_)))
    rintro hn9 v9 k9 ⟨c3_, d3_, r3_, nd3_, hd3_, nr3_, hr3_, fl3_, tg3_, br3_, f13_, t13_, nx3_, tk3_, C3_, OD3_, RD3_, q4_0, q4_1, q4_2, q4_3, q4_4, q4_5, q4_6, q4_7, rfl, rfl⟩
    refine mkG (.tuple #[(pgV (s5 3 C3_.length) nd3_ nr3_ hd3_ hr3_ (s1 4 OD3_.length) (s1 5 RD3_.length) f13_ nx3_ t13_ br3_ tk3_ (m.length : Int) (C3_.length : Int)), .int .i64 0]) [(inCo xl true), (uCo xv true), (jjCo m false), (iiCo C3_ false), (inCo OD3_ false), (inCo RD3_ false)] ⟨cvo, cvo, cvs 0 hn9, iiC_c 1, inC_c 2, inC_c 3, ⟨⟩⟩ ?_
    have hLow := fun (d0 r0 : List Int) (g1 : d0.length ≤ 16) (g2 : r0.length ≤ 16) => low_end (d0 := d0) (r0 := r0) (f0 := 0) hok hni g1 g2 (by omega) q4_0 q4_1 q4_2 q4_3 q4_4 q4_5 q4_6 q4_7
    obtain ⟨⟨hR, hi, hol, hrl2⟩, _⟩ := hLow [] [] (by simp) (by simp)
    refine sd_run 25 (sd_loop 129 (cl (cl (cr (cl (cr (cr (cr (cr (cr (cr f6b)))))))))) [.blk 2, .next (cr (cr (cr (cr (cr (cr (cr f6b)))))))] kr kr kr (fun m9 s9 => ∃ (n : Nat), m9 = 17 - n ∧ (n ≤ 17) ∧ s9 = ⟨tmL [(0, .int .u32 pc), (7, (s2 2 m.length)), (9, .pointer (some ⟨6, 0, none⟩)), (11, .int .i64 (n : Int))], hq [(inCo xl true), (uCo xv true), (jjCo m false), (iiCo C3_ false), (inCo OD3_ false), (inCo RD3_ false), some ⟨[(s5 3 C3_.length), .int .i64 nd3_, .int .i64 nr3_, .int .i64 hd3_, .int .i64 hr3_, (s1 4 OD3_.length), (s1 5 RD3_.length), .int .i64 f13_, .int .u32 nx3_, .int .i64 t13_, .int .i64 br3_, .int .u32 tk3_, .int .i64 (m.length : Int), .int .i64 (C3_.length : Int)], 38, false⟩]⟩) (17 - 0) _ e7_ hX ⟨0, rfl, (by omega), rfl⟩ ⟨sub_of kr kr ⟨inC_b, uC_b, jjC_b, iiC_b, inC_b, inC_b, brn, ⟨⟩⟩, te_of kr kr⟩ kr ?_)
    rintro m9 s9 ⟨n, rfl, i3_0, rfl⟩ R3_ hR3_
    by_cases hn16 : n ≤ 16
    ·skip
     refine sd_run 5 (sdT 59 ((n : Int) ≤ 16) (by omega) kr (sd_run 13 (sd_loop 129 (cl (cl (cr (cl (cl (cr (cl (cl (cr (cl (cr (cr (cr (cr (cr (cr f6b)))))))))))))))) [.blk 4, .blk 3, .next (cr (cr (cl (cl (cr (cl (cr (cr (cr (cr (cr (cr f6b)))))))))))), .inv R3_, .blk 2, .next (cr (cr (cr (cr (cr (cr (cr f6b)))))))] kr kr kr (fun m9 s9 => ∃ (k : Nat), m9 = 20 - k ∧ (k ≤ 20) ∧ s9 = ⟨tmL [(0, .int .u32 pc), (7, (s2 2 m.length)), (9, .pointer (some ⟨6, 0, none⟩)), (11, .int .i64 (n : Int)), (12, .int .i64 (k : Int))], hq [(inCo xl true), (uCo xv true), (jjCo m false), (iiCo C3_ false), (inCo OD3_ false), (inCo RD3_ false), some ⟨[(s5 3 C3_.length), .int .i64 nd3_, .int .i64 nr3_, .int .i64 hd3_, .int .i64 hr3_, (s1 4 OD3_.length), (s1 5 RD3_.length), .int .i64 f13_, .int .u32 nx3_, .int .i64 t13_, .int .i64 br3_, .int .u32 tk3_, .int .i64 (m.length : Int), .int .i64 (C3_.length : Int)], 38, false⟩]⟩) (20 - 0) _ e7_ hX ⟨0, rfl, (by omega), rfl⟩ ⟨sub_of kr kr ⟨inC_b, uC_b, jjC_b, iiC_b, inC_b, inC_b, brn, ⟨⟩⟩, te_of kr kr⟩ kr ?_)))
     rintro m9 s9 ⟨k, rfl, i4_0, rfl⟩ R4_ hR4_
     by_cases hk16 : k ≤ 16
     ·skip
      have hdl : (List.replicate n (0 : Int)).length ≤ 16 := by simp; omega
      have hrl : (List.replicate k (0 : Int)).length ≤ 16 := by simp; omega
      have hd32 : V32 (List.replicate n 0) := V32.rep n
      have hr32 : V32 (List.replicate k 0) := V32.rep k
      have hfl : 0 ≤ (⟨0, 0, 0, 0, 0, 0, 0, 0, false, false, false, false, false, false⟩ : Sx).fl ∧ (⟨0, 0, 0, 0, 0, 0, 0, 0, false, false, false, false, false, false⟩ : Sx).fl ≤ 15 := by decide
      have hcn : 0 ≤ (⟨0, 0, 0, 0, 0, 0, 0, 0, false, false, false, false, false, false⟩ : Sx).cnt ∧ (⟨0, 0, 0, 0, 0, 0, 0, 0, false, false, false, false, false, false⟩ : Sx).cnt < 18446744073709551616 := by decide
      obtain ⟨_, hEn, hEs⟩ := hLow _ _ hdl hrl
      refine sd_run 5 (sdT 63 ((k : Int) ≤ 16) (by omega) kr (sd_run 11 (sd_make 68 24 22 4 n 7 .i64 .i64 [Value.int .u32 0] (tab uC (List.replicate n (0 : Int))) kr kr kr kr (by omega) (by omega) kr (tab_one (enc := uC) (a := (0 : Int)) rfl _) (sd_see 68 (.slice (some ⟨7, 0, none⟩) ((List.replicate n (0 : Int)).length) n) (see_len (n := n) kr (by simp)) (sd_run 1 (sd_make 70 24 22 4 k 8 .i64 .i64 [Value.int .u32 0] (tab uC (List.replicate k (0 : Int))) kr kr kr kr (by omega) (by omega) kr (tab_one (enc := uC) (a := (0 : Int)) rfl _) (sd_see 70 (.slice (some ⟨8, 0, none⟩) ((List.replicate k (0 : Int)).length) k) (see_len (n := k) kr (by simp)) ?_)))))))
      refine sd_run 20 ?_
      have hLI := linv_start (l := m) (d := (List.replicate n (0 : Int))) (r := (List.replicate k (0 : Int))) (q := (⟨0, 0, 0, 0, 0, 0, 0, 0, false, false, false, false, false, false⟩ : Sx)) (pc := pc) hdl hrl hd32 hr32 hfl hcn
      have hlt0 : 0 < m.length := by have := hok.one; omega
      obtain ⟨a5, ha5⟩ : ∃ x_, (m)[0]? = some x_ := ⟨_, List.getElem?_eq_getElem (by omega)⟩
      obtain ⟨hri, hpl, hen⟩ := hok.ok 0 a5 ha5
      have hnn := hni _ (List.mem_of_getElem? ha5)
      by_cases hcan : canM a5.1 (List.replicate n (0 : Int)).length (List.replicate k (0 : Int)).length = true
      ·skip
       refine sd_run 8 (sdT 76 ((0 : Int) < (m.length : Int)) (by omega) kr (sd_run 16 (sd_ix 86 (.pointer (some ⟨2, 0 + 0 * 2, none⟩)) 0 m.length kr kr kr (by omega) (sd_ld 87 (.agg #[.int .i64 a5.1, .int .u32 a5.2]) 30 (.pointer (some ⟨2, 0 + 0 * 2, none⟩)) kr kr kr (ld_row (l := m) (e := 30) (ro := false) (k := 0) jjC_len kr kr kr ha5) (sdC 88 16 #[(stw pc (.slice (some ⟨7, 0, none⟩) ((List.replicate n (0 : Int)).length) n) (.slice (some ⟨8, 0, none⟩) ((List.replicate k (0 : Int)).length) k) 0 false false false 0 0 0 0 0 false false 0 false), .agg #[.int .i64 a5.1, .int .u32 a5.2], .pointer none, .pointer none] (@do_ok (⟨pc, 0, 0, 0, 0, 0, 0, 0, false, false, false, false, false, false⟩ : Sx) (List.replicate n (0 : Int)) [] (List.replicate k (0 : Int)) [] n k a5.1 a5.2 false hpl hri hdl hrl hfl hnn hd32 hcan) [some 7, some 8] ⟨bk_flat (tab uC (List.replicate n (0 : Int))) kr (tab_plain uC_pl _) (congrArg (tab uC) (List.append_nil _).symm), bk_flat (tab uC (List.replicate k (0 : Int))) kr (tab_plain uC_pl _) (congrArg (tab uC) (List.append_nil _).symm), ⟨⟩⟩ ?_)))))
       rintro hn9 v9 k9 ⟨D15_, j15_, R15_, k15_, fl15_, pc15_, q6_0, q6_1, q6_2, q6_3, rfl, rfl⟩
       refine mkG (rsw pc15_ (s1 11 D15_.length) (s1 12 R15_.length) fl15_ false false false 0 0 0 0 0 false false (IntKind.u64.wrap (0 + 1)) false false false (.slice none 0 0)) [(inCo xl true), (uCo xv true), (jjCo m false), (iiCo C3_ false), (inCo OD3_ false), (inCo RD3_ false), some ⟨[(s5 3 C3_.length), .int .i64 nd3_, .int .i64 nr3_, .int .i64 hd3_, .int .i64 hr3_, (s1 4 OD3_.length), (s1 5 RD3_.length), .int .i64 f13_, .int .u32 nx3_, .int .i64 t13_, .int .i64 br3_, .int .u32 tk3_, .int .i64 (m.length : Int), .int .i64 (C3_.length : Int)], 38, false⟩, (uCo (List.replicate n (0 : Int)) false), (uCo (List.replicate k (0 : Int)) false), some ⟨(slw pc (.slice (some ⟨7, 0, none⟩) ((List.replicate n (0 : Int)).length) n) (.slice (some ⟨8, 0, none⟩) ((List.replicate k (0 : Int)).length) k) 0 false false false 0 0 0 0 0 false false 0 false), 27, false⟩, some ⟨(slw pc (.slice (some ⟨7, 0, none⟩) ((List.replicate n (0 : Int)).length) n) (.slice (some ⟨8, 0, none⟩) ((List.replicate k (0 : Int)).length) k) 0 false false false 0 0 0 0 0 false false 0 false), 27, false⟩, (uCo (D15_ ++ j15_) false), (uCo (R15_ ++ k15_) false)] ⟨cvo, cvo, cvo, cvo, cvo, cvo, cvo, cvs 0 hn9, cvs 1 hn9, cvo, cvo, uC_c 2, uC_c 3, ⟨⟩⟩ ?_
       refine sd_run 4 (sd_drawQ [(3, 4)] kr kr ?_)
       refine sq_run 3 ?_
       refine sq_rd 92 (.bool false) (.pointer (some ⟨13, 16, none⟩)) 4 kr kr kr kr (by simp [veq, veq0]) kr ?_
       refine sq_sto (hq [(inCo xl true), (uCo xv true), (jjCo m false), (iiCo C3_ false), (inCo OD3_ false), (inCo RD3_ false), some ⟨[(s5 3 C3_.length), .int .i64 nd3_, .int .i64 nr3_, .int .i64 hd3_, .int .i64 hr3_, (s1 4 OD3_.length), (s1 5 RD3_.length), .int .i64 f13_, .int .u32 nx3_, .int .i64 t13_, .int .i64 br3_, .int .u32 tk3_, .int .i64 (m.length : Int), .int .i64 (C3_.length : Int)], 38, false⟩, (uCo (List.replicate n (0 : Int)) false), (uCo (List.replicate k (0 : Int)) false), some ⟨(slw pc (.slice (some ⟨7, 0, none⟩) ((List.replicate n (0 : Int)).length) n) (.slice (some ⟨8, 0, none⟩) ((List.replicate k (0 : Int)).length) k) 0 false false false 0 0 0 0 0 false false 0 false), 27, false⟩, some ⟨(slw pc15_ (s1 11 D15_.length) (s1 12 R15_.length) fl15_ false false false 0 0 0 0 0 false false (IntKind.u64.wrap (0 + 1)) false), 27, false⟩, (uCo (D15_ ++ j15_) false), (uCo (R15_ ++ k15_) false), some ⟨(rlw pc15_ (s1 11 D15_.length) (s1 12 R15_.length) fl15_ false false false 0 0 0 0 0 false false (IntKind.u64.wrap (0 + 1)) false false false (.slice none 0 0)), 52, false⟩]) kr kr kr kr kr ⟨kr, kr, kr⟩ ?_
       refine sq_run 1 ?_
       refine sq_end kr ?_
       refine sd_run 8 ?_
       have hL1 := linv_ok hLI ha5 hpl hnn hcan q6_0 q6_1 q6_2 q6_3
       refine sd_loop 129 (cl (cl (cr (cl (cr (cr (cl (cl (cr (cl (cl (cr (cl (cl (cr (cl (cl (cr (cl (cr (cr (cr (cr (cr (cr f6b))))))))))))))))))))))))) [.blk 6, .next (cr (cr (cr (cl (cl (cr (cl (cl (cr (cl (cl (cr (cl (cl (cr (cl (cr (cr (cr (cr (cr (cr f6b)))))))))))))))))))))), .blk 5, .next (cr (cr (cl (cl (cr (cl (cl (cr (cl (cl (cr (cl (cr (cr (cr (cr (cr (cr f6b)))))))))))))))))), .inv R4_, .blk 4, .blk 3, .next (cr (cr (cl (cl (cr (cl (cr (cr (cr (cr (cr (cr f6b)))))))))))), .inv R3_, .blk 2, .next (cr (cr (cr (cr (cr (cr (cr f6b)))))))] kr kr kr (fun m9 s9 => ∃ (j : Nat) (z : Sx) (D : List Int) (jD : List Int) (R : List Int) (jR : List Int) (tr : Bool), m9 = m.length - j ∧ (j ≤ m.length) ∧ (LInv m (List.replicate n (0 : Int)) (List.replicate k (0 : Int)) (⟨0, 0, 0, 0, 0, 0, 0, 0, false, false, false, false, false, false⟩ : Sx) pc j z D R tr) ∧ s9 = ⟨tmL [(0, .int .u32 pc), (7, (s2 2 m.length)), (9, .pointer (some ⟨6, 0, none⟩)), (11, .int .i64 (n : Int)), (12, .int .i64 (k : Int)), (13, .pointer (some ⟨9, 0, none⟩)), (14, .pointer (some ⟨10, 0, none⟩)), (15, .bool tr), (16, .int .i64 (j : Int))], hq [(inCo xl true), (uCo xv true), (jjCo m false), (iiCo C3_ false), (inCo OD3_ false), (inCo RD3_ false), some ⟨[(s5 3 C3_.length), .int .i64 nd3_, .int .i64 nr3_, .int .i64 hd3_, .int .i64 hr3_, (s1 4 OD3_.length), (s1 5 RD3_.length), .int .i64 f13_, .int .u32 nx3_, .int .i64 t13_, .int .i64 br3_, .int .u32 tk3_, .int .i64 (m.length : Int), .int .i64 (C3_.length : Int)], 38, false⟩, (uCo (List.replicate n (0 : Int)) false), (uCo (List.replicate k (0 : Int)) false), some ⟨(slw pc (.slice (some ⟨7, 0, none⟩) ((List.replicate n (0 : Int)).length) n) (.slice (some ⟨8, 0, none⟩) ((List.replicate k (0 : Int)).length) k) 0 false false false 0 0 0 0 0 false false 0 false), 27, false⟩, some ⟨(slq z z.pc (s1 11 D.length) (s1 12 R.length) z.fl z.cnt), 27, false⟩, (uCo (D ++ jD) false), (uCo (R ++ jR) false)]⟩) (m.length - 1) _ e13_ hX ⟨1, (⟨pc15_, fl15_, 0, 0, 0, 0, 0, (IntKind.u64.wrap (0 + 1)), false, false, false, false, false, false⟩ : Sx), D15_, j15_, R15_, k15_, false, rfl, (by omega), hL1, rfl⟩ ⟨sub_of kr kr ⟨inC_b, uC_b, jjC_b, iiC_b, inC_b, inC_b, brn, uC_b, uC_b, brn, brn, uC_b, uC_b, ⟨⟩⟩, te_of kr kr⟩ kr ?_
       rintro m9 s9 ⟨j, z, D, jD, R, jR, tr, rfl, i5_0, i5_1, rfl⟩ R5_ hR5_
       rcases Bool.eq_false_or_eq_true tr with hb | hb
       ·skip
        subst hb
        by_cases hlt9 : j < m.length
        ·skip
         refine sd_run 7 (sdT 76 ((j : Int) < (m.length : Int)) (by omega) kr (sd_run 13 ?_))
         have hY := i5_1.yes rfl
         have hF := hEn hY
         have hF2 := not_fit hF hdl hrl (by decide)
         simp only [List.length_replicate] at hF2
         have q3 := hR.nd_; have q4 := hR.nr_; have q5 := hR.hd_; have q6 := hR.hr_
         rcases (by omega : (n : Int) < nd3_ ∨ (nd3_ ≤ (n : Int) ∧ 16 < (n : Int) + hd3_) ∨ (nd3_ ≤ (n : Int) ∧ (n : Int) + hd3_ ≤ 16 ∧ (k : Int) < nr3_) ∨ (nd3_ ≤ (n : Int) ∧ (n : Int) + hd3_ ≤ 16 ∧ nr3_ ≤ (k : Int) ∧ 16 < (k : Int) + hr3_)) with hw | hw | hw | hw
         ·skip
          refine sd_drawP kr ?_
          refine svp_go 2 ?_
          refine svp_line ?_
          refine sv_callp 95 15 #[(pgV (s5 3 C3_.length) nd3_ nr3_ hd3_ hr3_ (s1 4 OD3_.length) (s1 5 RD3_.length) f13_ nx3_ t13_ br3_ tk3_ (m.length : Int) (C3_.length : Int)), (stw pc (.slice (some ⟨7, 0, none⟩) ((List.replicate n (0 : Int)).length) n) (.slice (some ⟨8, 0, none⟩) ((List.replicate k (0 : Int)).length) k) 0 false false false 0 0 0 0 0 false false 0 false)] (@fits_s C3_ OD3_ RD3_ nd3_ nr3_ hd3_ hr3_ f13_ nx3_ t13_ br3_ tk3_ (m.length : Int) (C3_.length : Int) (⟨pc, 0, 0, 0, 0, 0, 0, 0, false, false, false, false, false, false⟩ : Sx) (List.replicate n (0 : Int)) [] (List.replicate k (0 : Int)) [] false n k hR (by omega) (by omega) hi) [some 3, some 4, some 5, some 7, some 8] kr kr kr (hn_of 0 kr ⟨iiC_b, inC_b, inC_b, bk_flat (tab uC (List.replicate n (0 : Int))) kr (tab_plain uC_pl _) (congrArg (tab uC) (List.append_nil _).symm), bk_flat (tab uC (List.replicate k (0 : Int))) kr (tab_plain uC_pl _) (congrArg (tab uC) (List.append_nil _).symm), ⟨⟩⟩) kr kr ?_
          rintro v9 k9 ⟨rfl, rfl⟩
          refine ⟨rfl, .bool (fitsB nd3_ nr3_ hd3_ hr3_ (List.replicate n (0 : Int)) (List.replicate k (0 : Int)) 0), kr, ?_⟩
          refine sv_see 95 (.bool false) (see_bool kr hF) ?_
          refine sv_run 5 ?_
          refine sv_callp 101 15 #[(pgV (s5 3 C3_.length) nd3_ nr3_ hd3_ hr3_ (s1 4 OD3_.length) (s1 5 RD3_.length) f13_ nx3_ t13_ br3_ tk3_ (m.length : Int) (C3_.length : Int)), (stw pc (.slice (some ⟨7, 0, none⟩) ((List.replicate n (0 : Int)).length) n) (.slice (some ⟨8, 0, none⟩) ((List.replicate k (0 : Int)).length) k) 0 false false false 0 0 0 0 0 false false 0 false)] (@fits_s C3_ OD3_ RD3_ nd3_ nr3_ hd3_ hr3_ f13_ nx3_ t13_ br3_ tk3_ (m.length : Int) (C3_.length : Int) (⟨pc, 0, 0, 0, 0, 0, 0, 0, false, false, false, false, false, false⟩ : Sx) (List.replicate n (0 : Int)) [] (List.replicate k (0 : Int)) [] false n k hR (by omega) (by omega) hi) [some 3, some 4, some 5, some 7, some 8] kr kr kr (hn_of 0 kr ⟨iiC_b, inC_b, inC_b, bk_flat (tab uC (List.replicate n (0 : Int))) kr (tab_plain uC_pl _) (congrArg (tab uC) (List.append_nil _).symm), bk_flat (tab uC (List.replicate k (0 : Int))) kr (tab_plain uC_pl _) (congrArg (tab uC) (List.append_nil _).symm), ⟨⟩⟩) kr kr ?_
          rintro v9 k9 ⟨rfl, rfl⟩
          refine ⟨rfl, .bool (fitsB nd3_ nr3_ hd3_ hr3_ (List.replicate n (0 : Int)) (List.replicate k (0 : Int)) 0), kr, ?_⟩
          refine sv_see 101 (.bool false) (see_bool kr hF) ?_
          refine sv_run 2 ?_
          refine sv_rd 104 (.int .i64 nd3_) 3 6 1 kr kr kr kr (veq_int _ _) kr ?_
          refine sv_run 1 ?_
          refine sv_see 105 (.bool false) (see_bool kr ((decide_eq_false (by omega)) : (decide ((n : Int) ≥ nd3_)) = false)) ?_
          refine sv_run 22 ?_
          refine sv_end kr ?_
          refine sd_run 8 (sd_see 65 (.int .i64 ((k + 4 : Nat) : Int)) (see_int (x := (IntKind.i64.wrap ((k : Int) + 4))) kr (w64 (by omega) (by omega) (by omega))) (sd_run 2 ?_))
          refine sd_inv R4_ kr (hR4_ _ (20 - (k + 4)) _ e7_ (by omega) ⟨k + 4, rfl, (by omega), rfl⟩ ⟨sub_of kr kr ⟨inC_b, uC_b, jjC_b, iiC_b, inC_b, inC_b, brn, ⟨⟩⟩, te_of kr kr⟩ kr)
         ·skip
          refine sd_drawP kr ?_
          refine svp_go 2 ?_
          refine svp_line ?_
          refine sv_callp 95 15 #[(pgV (s5 3 C3_.length) nd3_ nr3_ hd3_ hr3_ (s1 4 OD3_.length) (s1 5 RD3_.length) f13_ nx3_ t13_ br3_ tk3_ (m.length : Int) (C3_.length : Int)), (stw pc (.slice (some ⟨7, 0, none⟩) ((List.replicate n (0 : Int)).length) n) (.slice (some ⟨8, 0, none⟩) ((List.replicate k (0 : Int)).length) k) 0 false false false 0 0 0 0 0 false false 0 false)] (@fits_s C3_ OD3_ RD3_ nd3_ nr3_ hd3_ hr3_ f13_ nx3_ t13_ br3_ tk3_ (m.length : Int) (C3_.length : Int) (⟨pc, 0, 0, 0, 0, 0, 0, 0, false, false, false, false, false, false⟩ : Sx) (List.replicate n (0 : Int)) [] (List.replicate k (0 : Int)) [] false n k hR (by omega) (by omega) hi) [some 3, some 4, some 5, some 7, some 8] kr kr kr (hn_of 0 kr ⟨iiC_b, inC_b, inC_b, bk_flat (tab uC (List.replicate n (0 : Int))) kr (tab_plain uC_pl _) (congrArg (tab uC) (List.append_nil _).symm), bk_flat (tab uC (List.replicate k (0 : Int))) kr (tab_plain uC_pl _) (congrArg (tab uC) (List.append_nil _).symm), ⟨⟩⟩) kr kr ?_
          rintro v9 k9 ⟨rfl, rfl⟩
          refine ⟨rfl, .bool (fitsB nd3_ nr3_ hd3_ hr3_ (List.replicate n (0 : Int)) (List.replicate k (0 : Int)) 0), kr, ?_⟩
          refine sv_see 95 (.bool false) (see_bool kr hF) ?_
          refine sv_run 5 ?_
          refine sv_callp 101 15 #[(pgV (s5 3 C3_.length) nd3_ nr3_ hd3_ hr3_ (s1 4 OD3_.length) (s1 5 RD3_.length) f13_ nx3_ t13_ br3_ tk3_ (m.length : Int) (C3_.length : Int)), (stw pc (.slice (some ⟨7, 0, none⟩) ((List.replicate n (0 : Int)).length) n) (.slice (some ⟨8, 0, none⟩) ((List.replicate k (0 : Int)).length) k) 0 false false false 0 0 0 0 0 false false 0 false)] (@fits_s C3_ OD3_ RD3_ nd3_ nr3_ hd3_ hr3_ f13_ nx3_ t13_ br3_ tk3_ (m.length : Int) (C3_.length : Int) (⟨pc, 0, 0, 0, 0, 0, 0, 0, false, false, false, false, false, false⟩ : Sx) (List.replicate n (0 : Int)) [] (List.replicate k (0 : Int)) [] false n k hR (by omega) (by omega) hi) [some 3, some 4, some 5, some 7, some 8] kr kr kr (hn_of 0 kr ⟨iiC_b, inC_b, inC_b, bk_flat (tab uC (List.replicate n (0 : Int))) kr (tab_plain uC_pl _) (congrArg (tab uC) (List.append_nil _).symm), bk_flat (tab uC (List.replicate k (0 : Int))) kr (tab_plain uC_pl _) (congrArg (tab uC) (List.append_nil _).symm), ⟨⟩⟩) kr kr ?_
          rintro v9 k9 ⟨rfl, rfl⟩
          refine ⟨rfl, .bool (fitsB nd3_ nr3_ hd3_ hr3_ (List.replicate n (0 : Int)) (List.replicate k (0 : Int)) 0), kr, ?_⟩
          refine sv_see 101 (.bool false) (see_bool kr hF) ?_
          refine sv_run 2 ?_
          refine sv_rd 104 (.int .i64 nd3_) 3 6 1 kr kr kr kr (veq_int _ _) kr ?_
          refine sv_run 1 ?_
          refine sv_see 105 (.bool true) (see_bool kr ((decide_eq_true (by omega)) : (decide ((n : Int) ≥ nd3_)) = true)) ?_
          refine sv_run 5 ?_
          refine sv_see 110 (.int .i64 ((n : Int) + hd3_)) (see_int (x := (IntKind.i64.wrap ((n : Int) + hd3_))) kr (w64 (by omega) (by omega) (by omega))) ?_
          refine sv_run 1 ?_
          refine sv_see 111 (.bool false) (see_bool kr ((decide_eq_false (by omega)) : (decide (((n : Int) + hd3_) ≤ 16)) = false)) ?_
          refine sv_run 16 ?_
          refine sv_end kr ?_
          refine sd_run 8 (sd_see 65 (.int .i64 ((k + 4 : Nat) : Int)) (see_int (x := (IntKind.i64.wrap ((k : Int) + 4))) kr (w64 (by omega) (by omega) (by omega))) (sd_run 2 ?_))
          refine sd_inv R4_ kr (hR4_ _ (20 - (k + 4)) _ e7_ (by omega) ⟨k + 4, rfl, (by omega), rfl⟩ ⟨sub_of kr kr ⟨inC_b, uC_b, jjC_b, iiC_b, inC_b, inC_b, brn, ⟨⟩⟩, te_of kr kr⟩ kr)
         ·skip
          refine sd_drawP kr ?_
          refine svp_go 2 ?_
          refine svp_line ?_
          refine sv_callp 95 15 #[(pgV (s5 3 C3_.length) nd3_ nr3_ hd3_ hr3_ (s1 4 OD3_.length) (s1 5 RD3_.length) f13_ nx3_ t13_ br3_ tk3_ (m.length : Int) (C3_.length : Int)), (stw pc (.slice (some ⟨7, 0, none⟩) ((List.replicate n (0 : Int)).length) n) (.slice (some ⟨8, 0, none⟩) ((List.replicate k (0 : Int)).length) k) 0 false false false 0 0 0 0 0 false false 0 false)] (@fits_s C3_ OD3_ RD3_ nd3_ nr3_ hd3_ hr3_ f13_ nx3_ t13_ br3_ tk3_ (m.length : Int) (C3_.length : Int) (⟨pc, 0, 0, 0, 0, 0, 0, 0, false, false, false, false, false, false⟩ : Sx) (List.replicate n (0 : Int)) [] (List.replicate k (0 : Int)) [] false n k hR (by omega) (by omega) hi) [some 3, some 4, some 5, some 7, some 8] kr kr kr (hn_of 0 kr ⟨iiC_b, inC_b, inC_b, bk_flat (tab uC (List.replicate n (0 : Int))) kr (tab_plain uC_pl _) (congrArg (tab uC) (List.append_nil _).symm), bk_flat (tab uC (List.replicate k (0 : Int))) kr (tab_plain uC_pl _) (congrArg (tab uC) (List.append_nil _).symm), ⟨⟩⟩) kr kr ?_
          rintro v9 k9 ⟨rfl, rfl⟩
          refine ⟨rfl, .bool (fitsB nd3_ nr3_ hd3_ hr3_ (List.replicate n (0 : Int)) (List.replicate k (0 : Int)) 0), kr, ?_⟩
          refine sv_see 95 (.bool false) (see_bool kr hF) ?_
          refine sv_run 5 ?_
          refine sv_callp 101 15 #[(pgV (s5 3 C3_.length) nd3_ nr3_ hd3_ hr3_ (s1 4 OD3_.length) (s1 5 RD3_.length) f13_ nx3_ t13_ br3_ tk3_ (m.length : Int) (C3_.length : Int)), (stw pc (.slice (some ⟨7, 0, none⟩) ((List.replicate n (0 : Int)).length) n) (.slice (some ⟨8, 0, none⟩) ((List.replicate k (0 : Int)).length) k) 0 false false false 0 0 0 0 0 false false 0 false)] (@fits_s C3_ OD3_ RD3_ nd3_ nr3_ hd3_ hr3_ f13_ nx3_ t13_ br3_ tk3_ (m.length : Int) (C3_.length : Int) (⟨pc, 0, 0, 0, 0, 0, 0, 0, false, false, false, false, false, false⟩ : Sx) (List.replicate n (0 : Int)) [] (List.replicate k (0 : Int)) [] false n k hR (by omega) (by omega) hi) [some 3, some 4, some 5, some 7, some 8] kr kr kr (hn_of 0 kr ⟨iiC_b, inC_b, inC_b, bk_flat (tab uC (List.replicate n (0 : Int))) kr (tab_plain uC_pl _) (congrArg (tab uC) (List.append_nil _).symm), bk_flat (tab uC (List.replicate k (0 : Int))) kr (tab_plain uC_pl _) (congrArg (tab uC) (List.append_nil _).symm), ⟨⟩⟩) kr kr ?_
          rintro v9 k9 ⟨rfl, rfl⟩
          refine ⟨rfl, .bool (fitsB nd3_ nr3_ hd3_ hr3_ (List.replicate n (0 : Int)) (List.replicate k (0 : Int)) 0), kr, ?_⟩
          refine sv_see 101 (.bool false) (see_bool kr hF) ?_
          refine sv_run 2 ?_
          refine sv_rd 104 (.int .i64 nd3_) 3 6 1 kr kr kr kr (veq_int _ _) kr ?_
          refine sv_run 1 ?_
          refine sv_see 105 (.bool true) (see_bool kr ((decide_eq_true (by omega)) : (decide ((n : Int) ≥ nd3_)) = true)) ?_
          refine sv_run 5 ?_
          refine sv_see 110 (.int .i64 ((n : Int) + hd3_)) (see_int (x := (IntKind.i64.wrap ((n : Int) + hd3_))) kr (w64 (by omega) (by omega) (by omega))) ?_
          refine sv_run 1 ?_
          refine sv_see 111 (.bool true) (see_bool kr ((decide_eq_true (by omega)) : (decide (((n : Int) + hd3_) ≤ 16)) = true)) ?_
          refine sv_run 6 ?_
          refine sv_see 117 (.bool false) (see_bool kr ((decide_eq_false (by omega)) : (decide ((k : Int) ≥ nr3_)) = false)) ?_
          refine sv_run 10 ?_
          refine sv_end kr ?_
          refine sd_run 8 (sd_see 65 (.int .i64 ((k + 4 : Nat) : Int)) (see_int (x := (IntKind.i64.wrap ((k : Int) + 4))) kr (w64 (by omega) (by omega) (by omega))) (sd_run 2 ?_))
          refine sd_inv R4_ kr (hR4_ _ (20 - (k + 4)) _ e7_ (by omega) ⟨k + 4, rfl, (by omega), rfl⟩ ⟨sub_of kr kr ⟨inC_b, uC_b, jjC_b, iiC_b, inC_b, inC_b, brn, ⟨⟩⟩, te_of kr kr⟩ kr)
         ·skip
          refine sd_drawP kr ?_
          refine svp_go 2 ?_
          refine svp_line ?_
          refine sv_callp 95 15 #[(pgV (s5 3 C3_.length) nd3_ nr3_ hd3_ hr3_ (s1 4 OD3_.length) (s1 5 RD3_.length) f13_ nx3_ t13_ br3_ tk3_ (m.length : Int) (C3_.length : Int)), (stw pc (.slice (some ⟨7, 0, none⟩) ((List.replicate n (0 : Int)).length) n) (.slice (some ⟨8, 0, none⟩) ((List.replicate k (0 : Int)).length) k) 0 false false false 0 0 0 0 0 false false 0 false)] (@fits_s C3_ OD3_ RD3_ nd3_ nr3_ hd3_ hr3_ f13_ nx3_ t13_ br3_ tk3_ (m.length : Int) (C3_.length : Int) (⟨pc, 0, 0, 0, 0, 0, 0, 0, false, false, false, false, false, false⟩ : Sx) (List.replicate n (0 : Int)) [] (List.replicate k (0 : Int)) [] false n k hR (by omega) (by omega) hi) [some 3, some 4, some 5, some 7, some 8] kr kr kr (hn_of 0 kr ⟨iiC_b, inC_b, inC_b, bk_flat (tab uC (List.replicate n (0 : Int))) kr (tab_plain uC_pl _) (congrArg (tab uC) (List.append_nil _).symm), bk_flat (tab uC (List.replicate k (0 : Int))) kr (tab_plain uC_pl _) (congrArg (tab uC) (List.append_nil _).symm), ⟨⟩⟩) kr kr ?_
          rintro v9 k9 ⟨rfl, rfl⟩
          refine ⟨rfl, .bool (fitsB nd3_ nr3_ hd3_ hr3_ (List.replicate n (0 : Int)) (List.replicate k (0 : Int)) 0), kr, ?_⟩
          refine sv_see 95 (.bool false) (see_bool kr hF) ?_
          refine sv_run 5 ?_
          refine sv_callp 101 15 #[(pgV (s5 3 C3_.length) nd3_ nr3_ hd3_ hr3_ (s1 4 OD3_.length) (s1 5 RD3_.length) f13_ nx3_ t13_ br3_ tk3_ (m.length : Int) (C3_.length : Int)), (stw pc (.slice (some ⟨7, 0, none⟩) ((List.replicate n (0 : Int)).length) n) (.slice (some ⟨8, 0, none⟩) ((List.replicate k (0 : Int)).length) k) 0 false false false 0 0 0 0 0 false false 0 false)] (@fits_s C3_ OD3_ RD3_ nd3_ nr3_ hd3_ hr3_ f13_ nx3_ t13_ br3_ tk3_ (m.length : Int) (C3_.length : Int) (⟨pc, 0, 0, 0, 0, 0, 0, 0, false, false, false, false, false, false⟩ : Sx) (List.replicate n (0 : Int)) [] (List.replicate k (0 : Int)) [] false n k hR (by omega) (by omega) hi) [some 3, some 4, some 5, some 7, some 8] kr kr kr (hn_of 0 kr ⟨iiC_b, inC_b, inC_b, bk_flat (tab uC (List.replicate n (0 : Int))) kr (tab_plain uC_pl _) (congrArg (tab uC) (List.append_nil _).symm), bk_flat (tab uC (List.replicate k (0 : Int))) kr (tab_plain uC_pl _) (congrArg (tab uC) (List.append_nil _).symm), ⟨⟩⟩) kr kr ?_
          rintro v9 k9 ⟨rfl, rfl⟩
          refine ⟨rfl, .bool (fitsB nd3_ nr3_ hd3_ hr3_ (List.replicate n (0 : Int)) (List.replicate k (0 : Int)) 0), kr, ?_⟩
          refine sv_see 101 (.bool false) (see_bool kr hF) ?_
          refine sv_run 2 ?_
          refine sv_rd 104 (.int .i64 nd3_) 3 6 1 kr kr kr kr (veq_int _ _) kr ?_
          refine sv_run 1 ?_
          refine sv_see 105 (.bool true) (see_bool kr ((decide_eq_true (by omega)) : (decide ((n : Int) ≥ nd3_)) = true)) ?_
          refine sv_run 5 ?_
          refine sv_see 110 (.int .i64 ((n : Int) + hd3_)) (see_int (x := (IntKind.i64.wrap ((n : Int) + hd3_))) kr (w64 (by omega) (by omega) (by omega))) ?_
          refine sv_run 1 ?_
          refine sv_see 111 (.bool true) (see_bool kr ((decide_eq_true (by omega)) : (decide (((n : Int) + hd3_) ≤ 16)) = true)) ?_
          refine sv_run 6 ?_
          refine sv_see 117 (.bool true) (see_bool kr ((decide_eq_true (by omega)) : (decide ((k : Int) ≥ nr3_)) = true)) ?_
          refine sv_run 6 ?_
          refine sv_see 123 (.int .i64 ((k : Int) + hr3_)) (see_int (x := (IntKind.i64.wrap ((k : Int) + hr3_))) kr (w64 (by omega) (by omega) (by omega))) ?_
          refine sv_run 1 ?_
          refine sv_see 124 (.bool false) (see_bool kr ((decide_eq_false (by omega)) : (decide (((k : Int) + hr3_) ≤ 16)) = false)) ?_
          refine sv_run 3 ?_
          refine sv_end kr ?_
          refine sd_run 8 (sd_see 65 (.int .i64 ((k + 4 : Nat) : Int)) (see_int (x := (IntKind.i64.wrap ((k : Int) + 4))) kr (w64 (by omega) (by omega) (by omega))) (sd_run 2 ?_))
          refine sd_inv R4_ kr (hR4_ _ (20 - (k + 4)) _ e7_ (by omega) ⟨k + 4, rfl, (by omega), rfl⟩ ⟨sub_of kr kr ⟨inC_b, uC_b, jjC_b, iiC_b, inC_b, inC_b, brn, ⟨⟩⟩, te_of kr kr⟩ kr)
        ·skip
         obtain rfl : j = m.length := by omega
         refine sd_run 7 (sdF 76 ((m.length : Int) < (m.length : Int)) (by omega) kr (sd_run 13 ?_))
         have hY := i5_1.yes rfl
         have hF := hEn hY
         have hF2 := not_fit hF hdl hrl (by decide)
         simp only [List.length_replicate] at hF2
         have q3 := hR.nd_; have q4 := hR.nr_; have q5 := hR.hd_; have q6 := hR.hr_
         rcases (by omega : (n : Int) < nd3_ ∨ (nd3_ ≤ (n : Int) ∧ 16 < (n : Int) + hd3_) ∨ (nd3_ ≤ (n : Int) ∧ (n : Int) + hd3_ ≤ 16 ∧ (k : Int) < nr3_) ∨ (nd3_ ≤ (n : Int) ∧ (n : Int) + hd3_ ≤ 16 ∧ nr3_ ≤ (k : Int) ∧ 16 < (k : Int) + hr3_)) with hw | hw | hw | hw
         ·skip
          refine sd_drawP kr ?_
          refine svp_go 2 ?_
          refine svp_line ?_
          refine sv_callp 95 15 #[(pgV (s5 3 C3_.length) nd3_ nr3_ hd3_ hr3_ (s1 4 OD3_.length) (s1 5 RD3_.length) f13_ nx3_ t13_ br3_ tk3_ (m.length : Int) (C3_.length : Int)), (stw pc (.slice (some ⟨7, 0, none⟩) ((List.replicate n (0 : Int)).length) n) (.slice (some ⟨8, 0, none⟩) ((List.replicate k (0 : Int)).length) k) 0 false false false 0 0 0 0 0 false false 0 false)] (@fits_s C3_ OD3_ RD3_ nd3_ nr3_ hd3_ hr3_ f13_ nx3_ t13_ br3_ tk3_ (m.length : Int) (C3_.length : Int) (⟨pc, 0, 0, 0, 0, 0, 0, 0, false, false, false, false, false, false⟩ : Sx) (List.replicate n (0 : Int)) [] (List.replicate k (0 : Int)) [] false n k hR (by omega) (by omega) hi) [some 3, some 4, some 5, some 7, some 8] kr kr kr (hn_of 0 kr ⟨iiC_b, inC_b, inC_b, bk_flat (tab uC (List.replicate n (0 : Int))) kr (tab_plain uC_pl _) (congrArg (tab uC) (List.append_nil _).symm), bk_flat (tab uC (List.replicate k (0 : Int))) kr (tab_plain uC_pl _) (congrArg (tab uC) (List.append_nil _).symm), ⟨⟩⟩) kr kr ?_
          rintro v9 k9 ⟨rfl, rfl⟩
          refine ⟨rfl, .bool (fitsB nd3_ nr3_ hd3_ hr3_ (List.replicate n (0 : Int)) (List.replicate k (0 : Int)) 0), kr, ?_⟩
          refine sv_see 95 (.bool false) (see_bool kr hF) ?_
          refine sv_run 5 ?_
          refine sv_callp 101 15 #[(pgV (s5 3 C3_.length) nd3_ nr3_ hd3_ hr3_ (s1 4 OD3_.length) (s1 5 RD3_.length) f13_ nx3_ t13_ br3_ tk3_ (m.length : Int) (C3_.length : Int)), (stw pc (.slice (some ⟨7, 0, none⟩) ((List.replicate n (0 : Int)).length) n) (.slice (some ⟨8, 0, none⟩) ((List.replicate k (0 : Int)).length) k) 0 false false false 0 0 0 0 0 false false 0 false)] (@fits_s C3_ OD3_ RD3_ nd3_ nr3_ hd3_ hr3_ f13_ nx3_ t13_ br3_ tk3_ (m.length : Int) (C3_.length : Int) (⟨pc, 0, 0, 0, 0, 0, 0, 0, false, false, false, false, false, false⟩ : Sx) (List.replicate n (0 : Int)) [] (List.replicate k (0 : Int)) [] false n k hR (by omega) (by omega) hi) [some 3, some 4, some 5, some 7, some 8] kr kr kr (hn_of 0 kr ⟨iiC_b, inC_b, inC_b, bk_flat (tab uC (List.replicate n (0 : Int))) kr (tab_plain uC_pl _) (congrArg (tab uC) (List.append_nil _).symm), bk_flat (tab uC (List.replicate k (0 : Int))) kr (tab_plain uC_pl _) (congrArg (tab uC) (List.append_nil _).symm), ⟨⟩⟩) kr kr ?_
          rintro v9 k9 ⟨rfl, rfl⟩
          refine ⟨rfl, .bool (fitsB nd3_ nr3_ hd3_ hr3_ (List.replicate n (0 : Int)) (List.replicate k (0 : Int)) 0), kr, ?_⟩
          refine sv_see 101 (.bool false) (see_bool kr hF) ?_
          refine sv_run 2 ?_
          refine sv_rd 104 (.int .i64 nd3_) 3 6 1 kr kr kr kr (veq_int _ _) kr ?_
          refine sv_run 1 ?_
          refine sv_see 105 (.bool false) (see_bool kr ((decide_eq_false (by omega)) : (decide ((n : Int) ≥ nd3_)) = false)) ?_
          refine sv_run 22 ?_
          refine sv_end kr ?_
          refine sd_run 8 (sd_see 65 (.int .i64 ((k + 4 : Nat) : Int)) (see_int (x := (IntKind.i64.wrap ((k : Int) + 4))) kr (w64 (by omega) (by omega) (by omega))) (sd_run 2 ?_))
          refine sd_inv R4_ kr (hR4_ _ (20 - (k + 4)) _ e7_ (by omega) ⟨k + 4, rfl, (by omega), rfl⟩ ⟨sub_of kr kr ⟨inC_b, uC_b, jjC_b, iiC_b, inC_b, inC_b, brn, ⟨⟩⟩, te_of kr kr⟩ kr)
         ·skip
          refine sd_drawP kr ?_
          refine svp_go 2 ?_
          refine svp_line ?_
          refine sv_callp 95 15 #[(pgV (s5 3 C3_.length) nd3_ nr3_ hd3_ hr3_ (s1 4 OD3_.length) (s1 5 RD3_.length) f13_ nx3_ t13_ br3_ tk3_ (m.length : Int) (C3_.length : Int)), (stw pc (.slice (some ⟨7, 0, none⟩) ((List.replicate n (0 : Int)).length) n) (.slice (some ⟨8, 0, none⟩) ((List.replicate k (0 : Int)).length) k) 0 false false false 0 0 0 0 0 false false 0 false)] (@fits_s C3_ OD3_ RD3_ nd3_ nr3_ hd3_ hr3_ f13_ nx3_ t13_ br3_ tk3_ (m.length : Int) (C3_.length : Int) (⟨pc, 0, 0, 0, 0, 0, 0, 0, false, false, false, false, false, false⟩ : Sx) (List.replicate n (0 : Int)) [] (List.replicate k (0 : Int)) [] false n k hR (by omega) (by omega) hi) [some 3, some 4, some 5, some 7, some 8] kr kr kr (hn_of 0 kr ⟨iiC_b, inC_b, inC_b, bk_flat (tab uC (List.replicate n (0 : Int))) kr (tab_plain uC_pl _) (congrArg (tab uC) (List.append_nil _).symm), bk_flat (tab uC (List.replicate k (0 : Int))) kr (tab_plain uC_pl _) (congrArg (tab uC) (List.append_nil _).symm), ⟨⟩⟩) kr kr ?_
          rintro v9 k9 ⟨rfl, rfl⟩
          refine ⟨rfl, .bool (fitsB nd3_ nr3_ hd3_ hr3_ (List.replicate n (0 : Int)) (List.replicate k (0 : Int)) 0), kr, ?_⟩
          refine sv_see 95 (.bool false) (see_bool kr hF) ?_
          refine sv_run 5 ?_
          refine sv_callp 101 15 #[(pgV (s5 3 C3_.length) nd3_ nr3_ hd3_ hr3_ (s1 4 OD3_.length) (s1 5 RD3_.length) f13_ nx3_ t13_ br3_ tk3_ (m.length : Int) (C3_.length : Int)), (stw pc (.slice (some ⟨7, 0, none⟩) ((List.replicate n (0 : Int)).length) n) (.slice (some ⟨8, 0, none⟩) ((List.replicate k (0 : Int)).length) k) 0 false false false 0 0 0 0 0 false false 0 false)] (@fits_s C3_ OD3_ RD3_ nd3_ nr3_ hd3_ hr3_ f13_ nx3_ t13_ br3_ tk3_ (m.length : Int) (C3_.length : Int) (⟨pc, 0, 0, 0, 0, 0, 0, 0, false, false, false, false, false, false⟩ : Sx) (List.replicate n (0 : Int)) [] (List.replicate k (0 : Int)) [] false n k hR (by omega) (by omega) hi) [some 3, some 4, some 5, some 7, some 8] kr kr kr (hn_of 0 kr ⟨iiC_b, inC_b, inC_b, bk_flat (tab uC (List.replicate n (0 : Int))) kr (tab_plain uC_pl _) (congrArg (tab uC) (List.append_nil _).symm), bk_flat (tab uC (List.replicate k (0 : Int))) kr (tab_plain uC_pl _) (congrArg (tab uC) (List.append_nil _).symm), ⟨⟩⟩) kr kr ?_
          rintro v9 k9 ⟨rfl, rfl⟩
          refine ⟨rfl, .bool (fitsB nd3_ nr3_ hd3_ hr3_ (List.replicate n (0 : Int)) (List.replicate k (0 : Int)) 0), kr, ?_⟩
          refine sv_see 101 (.bool false) (see_bool kr hF) ?_
          refine sv_run 2 ?_
          refine sv_rd 104 (.int .i64 nd3_) 3 6 1 kr kr kr kr (veq_int _ _) kr ?_
          refine sv_run 1 ?_
          refine sv_see 105 (.bool true) (see_bool kr ((decide_eq_true (by omega)) : (decide ((n : Int) ≥ nd3_)) = true)) ?_
          refine sv_run 5 ?_
          refine sv_see 110 (.int .i64 ((n : Int) + hd3_)) (see_int (x := (IntKind.i64.wrap ((n : Int) + hd3_))) kr (w64 (by omega) (by omega) (by omega))) ?_
          refine sv_run 1 ?_
          refine sv_see 111 (.bool false) (see_bool kr ((decide_eq_false (by omega)) : (decide (((n : Int) + hd3_) ≤ 16)) = false)) ?_
          refine sv_run 16 ?_
          refine sv_end kr ?_
          refine sd_run 8 (sd_see 65 (.int .i64 ((k + 4 : Nat) : Int)) (see_int (x := (IntKind.i64.wrap ((k : Int) + 4))) kr (w64 (by omega) (by omega) (by omega))) (sd_run 2 ?_))
          refine sd_inv R4_ kr (hR4_ _ (20 - (k + 4)) _ e7_ (by omega) ⟨k + 4, rfl, (by omega), rfl⟩ ⟨sub_of kr kr ⟨inC_b, uC_b, jjC_b, iiC_b, inC_b, inC_b, brn, ⟨⟩⟩, te_of kr kr⟩ kr)
         ·skip
          refine sd_drawP kr ?_
          refine svp_go 2 ?_
          refine svp_line ?_
          refine sv_callp 95 15 #[(pgV (s5 3 C3_.length) nd3_ nr3_ hd3_ hr3_ (s1 4 OD3_.length) (s1 5 RD3_.length) f13_ nx3_ t13_ br3_ tk3_ (m.length : Int) (C3_.length : Int)), (stw pc (.slice (some ⟨7, 0, none⟩) ((List.replicate n (0 : Int)).length) n) (.slice (some ⟨8, 0, none⟩) ((List.replicate k (0 : Int)).length) k) 0 false false false 0 0 0 0 0 false false 0 false)] (@fits_s C3_ OD3_ RD3_ nd3_ nr3_ hd3_ hr3_ f13_ nx3_ t13_ br3_ tk3_ (m.length : Int) (C3_.length : Int) (⟨pc, 0, 0, 0, 0, 0, 0, 0, false, false, false, false, false, false⟩ : Sx) (List.replicate n (0 : Int)) [] (List.replicate k (0 : Int)) [] false n k hR (by omega) (by omega) hi) [some 3, some 4, some 5, some 7, some 8] kr kr kr (hn_of 0 kr ⟨iiC_b, inC_b, inC_b, bk_flat (tab uC (List.replicate n (0 : Int))) kr (tab_plain uC_pl _) (congrArg (tab uC) (List.append_nil _).symm), bk_flat (tab uC (List.replicate k (0 : Int))) kr (tab_plain uC_pl _) (congrArg (tab uC) (List.append_nil _).symm), ⟨⟩⟩) kr kr ?_
          rintro v9 k9 ⟨rfl, rfl⟩
          refine ⟨rfl, .bool (fitsB nd3_ nr3_ hd3_ hr3_ (List.replicate n (0 : Int)) (List.replicate k (0 : Int)) 0), kr, ?_⟩
          refine sv_see 95 (.bool false) (see_bool kr hF) ?_
          refine sv_run 5 ?_
          refine sv_callp 101 15 #[(pgV (s5 3 C3_.length) nd3_ nr3_ hd3_ hr3_ (s1 4 OD3_.length) (s1 5 RD3_.length) f13_ nx3_ t13_ br3_ tk3_ (m.length : Int) (C3_.length : Int)), (stw pc (.slice (some ⟨7, 0, none⟩) ((List.replicate n (0 : Int)).length) n) (.slice (some ⟨8, 0, none⟩) ((List.replicate k (0 : Int)).length) k) 0 false false false 0 0 0 0 0 false false 0 false)] (@fits_s C3_ OD3_ RD3_ nd3_ nr3_ hd3_ hr3_ f13_ nx3_ t13_ br3_ tk3_ (m.length : Int) (C3_.length : Int) (⟨pc, 0, 0, 0, 0, 0, 0, 0, false, false, false, false, false, false⟩ : Sx) (List.replicate n (0 : Int)) [] (List.replicate k (0 : Int)) [] false n k hR (by omega) (by omega) hi) [some 3, some 4, some 5, some 7, some 8] kr kr kr (hn_of 0 kr ⟨iiC_b, inC_b, inC_b, bk_flat (tab uC (List.replicate n (0 : Int))) kr (tab_plain uC_pl _) (congrArg (tab uC) (List.append_nil _).symm), bk_flat (tab uC (List.replicate k (0 : Int))) kr (tab_plain uC_pl _) (congrArg (tab uC) (List.append_nil _).symm), ⟨⟩⟩) kr kr ?_
          rintro v9 k9 ⟨rfl, rfl⟩
          refine ⟨rfl, .bool (fitsB nd3_ nr3_ hd3_ hr3_ (List.replicate n (0 : Int)) (List.replicate k (0 : Int)) 0), kr, ?_⟩
          refine sv_see 101 (.bool false) (see_bool kr hF) ?_
          refine sv_run 2 ?_
          refine sv_rd 104 (.int .i64 nd3_) 3 6 1 kr kr kr kr (veq_int _ _) kr ?_
          refine sv_run 1 ?_
          refine sv_see 105 (.bool true) (see_bool kr ((decide_eq_true (by omega)) : (decide ((n : Int) ≥ nd3_)) = true)) ?_
          refine sv_run 5 ?_
          refine sv_see 110 (.int .i64 ((n : Int) + hd3_)) (see_int (x := (IntKind.i64.wrap ((n : Int) + hd3_))) kr (w64 (by omega) (by omega) (by omega))) ?_
          refine sv_run 1 ?_
          refine sv_see 111 (.bool true) (see_bool kr ((decide_eq_true (by omega)) : (decide (((n : Int) + hd3_) ≤ 16)) = true)) ?_
          refine sv_run 6 ?_
          refine sv_see 117 (.bool false) (see_bool kr ((decide_eq_false (by omega)) : (decide ((k : Int) ≥ nr3_)) = false)) ?_
          refine sv_run 10 ?_
          refine sv_end kr ?_
          refine sd_run 8 (sd_see 65 (.int .i64 ((k + 4 : Nat) : Int)) (see_int (x := (IntKind.i64.wrap ((k : Int) + 4))) kr (w64 (by omega) (by omega) (by omega))) (sd_run 2 ?_))
          refine sd_inv R4_ kr (hR4_ _ (20 - (k + 4)) _ e7_ (by omega) ⟨k + 4, rfl, (by omega), rfl⟩ ⟨sub_of kr kr ⟨inC_b, uC_b, jjC_b, iiC_b, inC_b, inC_b, brn, ⟨⟩⟩, te_of kr kr⟩ kr)
         ·skip
          refine sd_drawP kr ?_
          refine svp_go 2 ?_
          refine svp_line ?_
          refine sv_callp 95 15 #[(pgV (s5 3 C3_.length) nd3_ nr3_ hd3_ hr3_ (s1 4 OD3_.length) (s1 5 RD3_.length) f13_ nx3_ t13_ br3_ tk3_ (m.length : Int) (C3_.length : Int)), (stw pc (.slice (some ⟨7, 0, none⟩) ((List.replicate n (0 : Int)).length) n) (.slice (some ⟨8, 0, none⟩) ((List.replicate k (0 : Int)).length) k) 0 false false false 0 0 0 0 0 false false 0 false)] (@fits_s C3_ OD3_ RD3_ nd3_ nr3_ hd3_ hr3_ f13_ nx3_ t13_ br3_ tk3_ (m.length : Int) (C3_.length : Int) (⟨pc, 0, 0, 0, 0, 0, 0, 0, false, false, false, false, false, false⟩ : Sx) (List.replicate n (0 : Int)) [] (List.replicate k (0 : Int)) [] false n k hR (by omega) (by omega) hi) [some 3, some 4, some 5, some 7, some 8] kr kr kr (hn_of 0 kr ⟨iiC_b, inC_b, inC_b, bk_flat (tab uC (List.replicate n (0 : Int))) kr (tab_plain uC_pl _) (congrArg (tab uC) (List.append_nil _).symm), bk_flat (tab uC (List.replicate k (0 : Int))) kr (tab_plain uC_pl _) (congrArg (tab uC) (List.append_nil _).symm), ⟨⟩⟩) kr kr ?_
          rintro v9 k9 ⟨rfl, rfl⟩
          refine ⟨rfl, .bool (fitsB nd3_ nr3_ hd3_ hr3_ (List.replicate n (0 : Int)) (List.replicate k (0 : Int)) 0), kr, ?_⟩
          refine sv_see 95 (.bool false) (see_bool kr hF) ?_
          refine sv_run 5 ?_
          refine sv_callp 101 15 #[(pgV (s5 3 C3_.length) nd3_ nr3_ hd3_ hr3_ (s1 4 OD3_.length) (s1 5 RD3_.length) f13_ nx3_ t13_ br3_ tk3_ (m.length : Int) (C3_.length : Int)), (stw pc (.slice (some ⟨7, 0, none⟩) ((List.replicate n (0 : Int)).length) n) (.slice (some ⟨8, 0, none⟩) ((List.replicate k (0 : Int)).length) k) 0 false false false 0 0 0 0 0 false false 0 false)] (@fits_s C3_ OD3_ RD3_ nd3_ nr3_ hd3_ hr3_ f13_ nx3_ t13_ br3_ tk3_ (m.length : Int) (C3_.length : Int) (⟨pc, 0, 0, 0, 0, 0, 0, 0, false, false, false, false, false, false⟩ : Sx) (List.replicate n (0 : Int)) [] (List.replicate k (0 : Int)) [] false n k hR (by omega) (by omega) hi) [some 3, some 4, some 5, some 7, some 8] kr kr kr (hn_of 0 kr ⟨iiC_b, inC_b, inC_b, bk_flat (tab uC (List.replicate n (0 : Int))) kr (tab_plain uC_pl _) (congrArg (tab uC) (List.append_nil _).symm), bk_flat (tab uC (List.replicate k (0 : Int))) kr (tab_plain uC_pl _) (congrArg (tab uC) (List.append_nil _).symm), ⟨⟩⟩) kr kr ?_
          rintro v9 k9 ⟨rfl, rfl⟩
          refine ⟨rfl, .bool (fitsB nd3_ nr3_ hd3_ hr3_ (List.replicate n (0 : Int)) (List.replicate k (0 : Int)) 0), kr, ?_⟩
          refine sv_see 101 (.bool false) (see_bool kr hF) ?_
          refine sv_run 2 ?_
          refine sv_rd 104 (.int .i64 nd3_) 3 6 1 kr kr kr kr (veq_int _ _) kr ?_
          refine sv_run 1 ?_
          refine sv_see 105 (.bool true) (see_bool kr ((decide_eq_true (by omega)) : (decide ((n : Int) ≥ nd3_)) = true)) ?_
          refine sv_run 5 ?_
          refine sv_see 110 (.int .i64 ((n : Int) + hd3_)) (see_int (x := (IntKind.i64.wrap ((n : Int) + hd3_))) kr (w64 (by omega) (by omega) (by omega))) ?_
          refine sv_run 1 ?_
          refine sv_see 111 (.bool true) (see_bool kr ((decide_eq_true (by omega)) : (decide (((n : Int) + hd3_) ≤ 16)) = true)) ?_
          refine sv_run 6 ?_
          refine sv_see 117 (.bool true) (see_bool kr ((decide_eq_true (by omega)) : (decide ((k : Int) ≥ nr3_)) = true)) ?_
          refine sv_run 6 ?_
          refine sv_see 123 (.int .i64 ((k : Int) + hr3_)) (see_int (x := (IntKind.i64.wrap ((k : Int) + hr3_))) kr (w64 (by omega) (by omega) (by omega))) ?_
          refine sv_run 1 ?_
          refine sv_see 124 (.bool false) (see_bool kr ((decide_eq_false (by omega)) : (decide (((k : Int) + hr3_) ≤ 16)) = false)) ?_
          refine sv_run 3 ?_
          refine sv_end kr ?_
          refine sd_run 8 (sd_see 65 (.int .i64 ((k + 4 : Nat) : Int)) (see_int (x := (IntKind.i64.wrap ((k : Int) + 4))) kr (w64 (by omega) (by omega) (by omega))) (sd_run 2 ?_))
          refine sd_inv R4_ kr (hR4_ _ (20 - (k + 4)) _ e7_ (by omega) ⟨k + 4, rfl, (by omega), rfl⟩ ⟨sub_of kr kr ⟨inC_b, uC_b, jjC_b, iiC_b, inC_b, inC_b, brn, ⟨⟩⟩, te_of kr kr⟩ kr)
       ·skip
        subst hb
        by_cases hlt9 : j < m.length
        ·skip
         obtain ⟨a7, ha7⟩ : ∃ x_, (m)[j]? = some x_ := ⟨_, List.getElem?_eq_getElem (by omega)⟩
         obtain ⟨hri, hpl, hen⟩ := hok.ok j a7 ha7
         have hnn := hni _ (List.mem_of_getElem? ha7)
         obtain ⟨hz1, hz2, hz3, hz4, hz5, hz6, hz7⟩ := i5_1.no rfl
         by_cases hcan : canM a7.1 D.length R.length = true
         ·skip
          refine sd_run 7 (sdT 76 ((j : Int) < (m.length : Int)) (by omega) kr (sd_run 16 (sd_ix 86 (.pointer (some ⟨2, 0 + j * 2, none⟩)) j m.length kr kr kr (by omega) (sd_ld 87 (.agg #[.int .i64 a7.1, .int .u32 a7.2]) 30 (.pointer (some ⟨2, 0 + j * 2, none⟩)) kr kr kr (ld_row (l := m) (e := 30) (ro := false) (k := j) jjC_len kr kr kr ha7) (sdC 88 16 #[(stq z z.pc (s1 11 D.length) (s1 12 R.length) z.fl z.cnt), .agg #[.int .i64 a7.1, .int .u32 a7.2], .pointer none, .pointer none] (@do_ok z D jD R jR (unk + 1) (unk + 1) a7.1 a7.2 false hpl hri hz3 hz4 hz7 hnn hz5 hcan) [some 11, some 12] ⟨uC_b, uC_b, ⟨⟩⟩ ?_)))))
          rintro hn9 v9 k9 ⟨D17_, j17_, R17_, k17_, fl17_, pc17_, q8_0, q8_1, q8_2, q8_3, rfl, rfl⟩
          refine mkG (rsq z pc17_ (s1 13 D17_.length) (s1 14 R17_.length) fl17_ (IntKind.u64.wrap (z.cnt + 1)) false false (.slice none 0 0)) [(inCo xl true), (uCo xv true), (jjCo m false), (iiCo C3_ false), (inCo OD3_ false), (inCo RD3_ false), some ⟨[(s5 3 C3_.length), .int .i64 nd3_, .int .i64 nr3_, .int .i64 hd3_, .int .i64 hr3_, (s1 4 OD3_.length), (s1 5 RD3_.length), .int .i64 f13_, .int .u32 nx3_, .int .i64 t13_, .int .i64 br3_, .int .u32 tk3_, .int .i64 (m.length : Int), .int .i64 (C3_.length : Int)], 38, false⟩, (uCo (List.replicate n (0 : Int)) false), (uCo (List.replicate k (0 : Int)) false), some ⟨(slw pc (.slice (some ⟨7, 0, none⟩) ((List.replicate n (0 : Int)).length) n) (.slice (some ⟨8, 0, none⟩) ((List.replicate k (0 : Int)).length) k) 0 false false false 0 0 0 0 0 false false 0 false), 27, false⟩, some ⟨(slq z z.pc (s1 11 D.length) (s1 12 R.length) z.fl z.cnt), 27, false⟩, (uCo (D ++ jD) false), (uCo (R ++ jR) false), (uCo (D17_ ++ j17_) false), (uCo (R17_ ++ k17_) false)] ⟨cvo, cvo, cvo, cvo, cvo, cvo, cvo, cvo, cvo, cvo, cvo, cvs 0 hn9, cvs 1 hn9, uC_c 2, uC_c 3, ⟨⟩⟩ ?_
          refine sd_run 4 (sd_drawQ [(3, 4)] kr kr ?_)
          refine sq_run 3 ?_
          refine sq_rd 92 (.bool false) (.pointer (some ⟨15, 16, none⟩)) 4 kr kr kr kr (by simp [veq, veq0]) kr ?_
          refine sq_sto (hq [(inCo xl true), (uCo xv true), (jjCo m false), (iiCo C3_ false), (inCo OD3_ false), (inCo RD3_ false), some ⟨[(s5 3 C3_.length), .int .i64 nd3_, .int .i64 nr3_, .int .i64 hd3_, .int .i64 hr3_, (s1 4 OD3_.length), (s1 5 RD3_.length), .int .i64 f13_, .int .u32 nx3_, .int .i64 t13_, .int .i64 br3_, .int .u32 tk3_, .int .i64 (m.length : Int), .int .i64 (C3_.length : Int)], 38, false⟩, (uCo (List.replicate n (0 : Int)) false), (uCo (List.replicate k (0 : Int)) false), some ⟨(slw pc (.slice (some ⟨7, 0, none⟩) ((List.replicate n (0 : Int)).length) n) (.slice (some ⟨8, 0, none⟩) ((List.replicate k (0 : Int)).length) k) 0 false false false 0 0 0 0 0 false false 0 false), 27, false⟩, some ⟨(slq z pc17_ (s1 13 D17_.length) (s1 14 R17_.length) fl17_ (IntKind.u64.wrap (z.cnt + 1))), 27, false⟩, (uCo (D ++ jD) false), (uCo (R ++ jR) false), (uCo (D17_ ++ j17_) false), (uCo (R17_ ++ k17_) false), some ⟨(rlq z pc17_ (s1 13 D17_.length) (s1 14 R17_.length) fl17_ (IntKind.u64.wrap (z.cnt + 1)) false false (.slice none 0 0)), 52, false⟩]) kr kr kr kr kr ⟨kr, kr, kr⟩ ?_
          refine sq_run 1 ?_
          refine sq_end kr ?_
          refine sd_run 5 (sd_see 82 (.int .i64 ((j + 1 : Nat) : Int)) (see_int (x := (IntKind.i64.wrap ((j : Int) + 1))) kr (w64 (by omega) (by omega) (by omega))) (sd_run 2 ?_))
          refine sd_inv R5_ kr (hR5_ _ (m.length - (j + 1)) _ (emOf [some 0, some 1, some 2, some 3, some 4, some 5, some 6, some 7, some 8, some 9, some 10, some 13, some 14]) (by omega) ⟨j + 1, (⟨pc17_, fl17_, z.root, z.vec, z.epc, z.cause, z.addr, (IntKind.u64.wrap (z.cnt + 1)), z.su, z.pg, z.ie, z.es, z.ei, z.ha⟩ : Sx), D17_, j17_, R17_, k17_, false, rfl, (by omega), (linv_ok i5_1 ha7 hpl hnn hcan q8_0 q8_1 q8_2 q8_3), rfl⟩ ⟨sub_of kr kr ⟨inC_b, uC_b, jjC_b, iiC_b, inC_b, inC_b, brn, uC_b, uC_b, brn, brn, uC_b, uC_b, ⟨⟩⟩, te_of kr kr⟩ kr)
         ·skip
          have hcan := eq_false_of_ne_true hcan
          refine sd_run 7 (sdT 76 ((j : Int) < (m.length : Int)) (by omega) kr (sd_run 16 (sd_ix 86 (.pointer (some ⟨2, 0 + j * 2, none⟩)) j m.length kr kr kr (by omega) (sd_ld 87 (.agg #[.int .i64 a7.1, .int .u32 a7.2]) 30 (.pointer (some ⟨2, 0 + j * 2, none⟩)) kr kr kr (ld_row (l := m) (e := 30) (ro := false) (k := j) jjC_len kr kr kr ha7) (sdC 88 16 #[(stq z z.pc (s1 11 D.length) (s1 12 R.length) z.fl z.cnt), .agg #[.int .i64 a7.1, .int .u32 a7.2], .pointer none, .pointer none] (@do_trap z D jD R jR (unk + 1) (unk + 1) a7.1 a7.2 false hpl hri hz3 hz4 hz7.2 hcan) [some 11, some 12] ⟨uC_b, uC_b, ⟨⟩⟩ ?_)))))
          rintro hn9 v9 k9 ⟨cs8_, rfl, rfl⟩
          refine mkG (rsw z.vec (s1 13 D.length) (s1 14 R.length) z.fl true z.pg false z.root z.vec z.pc cs8_ 0 z.su z.ie (IntKind.u64.wrap (z.cnt + 1)) z.ha true false (.slice none 0 0)) [(inCo xl true), (uCo xv true), (jjCo m false), (iiCo C3_ false), (inCo OD3_ false), (inCo RD3_ false), some ⟨[(s5 3 C3_.length), .int .i64 nd3_, .int .i64 nr3_, .int .i64 hd3_, .int .i64 hr3_, (s1 4 OD3_.length), (s1 5 RD3_.length), .int .i64 f13_, .int .u32 nx3_, .int .i64 t13_, .int .i64 br3_, .int .u32 tk3_, .int .i64 (m.length : Int), .int .i64 (C3_.length : Int)], 38, false⟩, (uCo (List.replicate n (0 : Int)) false), (uCo (List.replicate k (0 : Int)) false), some ⟨(slw pc (.slice (some ⟨7, 0, none⟩) ((List.replicate n (0 : Int)).length) n) (.slice (some ⟨8, 0, none⟩) ((List.replicate k (0 : Int)).length) k) 0 false false false 0 0 0 0 0 false false 0 false), 27, false⟩, some ⟨(slq z z.pc (s1 11 D.length) (s1 12 R.length) z.fl z.cnt), 27, false⟩, (uCo (D ++ jD) false), (uCo (R ++ jR) false), (uCo D false), (uCo R false)] ⟨cvo, cvo, cvo, cvo, cvo, cvo, cvo, cvo, cvo, cvo, cvo, cvs 0 hn9, cvs 1 hn9, uC_c 2, uC_c 3, ⟨⟩⟩ ?_
          refine sd_run 4 (sd_drawQ [(3, 4)] kr kr ?_)
          refine sq_run 3 ?_
          refine sq_rd 92 (.bool true) (.pointer (some ⟨15, 16, none⟩)) 4 kr kr kr kr (by simp [veq, veq0]) kr ?_
          refine sq_sto (hq [(inCo xl true), (uCo xv true), (jjCo m false), (iiCo C3_ false), (inCo OD3_ false), (inCo RD3_ false), some ⟨[(s5 3 C3_.length), .int .i64 nd3_, .int .i64 nr3_, .int .i64 hd3_, .int .i64 hr3_, (s1 4 OD3_.length), (s1 5 RD3_.length), .int .i64 f13_, .int .u32 nx3_, .int .i64 t13_, .int .i64 br3_, .int .u32 tk3_, .int .i64 (m.length : Int), .int .i64 (C3_.length : Int)], 38, false⟩, (uCo (List.replicate n (0 : Int)) false), (uCo (List.replicate k (0 : Int)) false), some ⟨(slw pc (.slice (some ⟨7, 0, none⟩) ((List.replicate n (0 : Int)).length) n) (.slice (some ⟨8, 0, none⟩) ((List.replicate k (0 : Int)).length) k) 0 false false false 0 0 0 0 0 false false 0 false), 27, false⟩, some ⟨(slw z.vec (s1 13 D.length) (s1 14 R.length) z.fl true z.pg false z.root z.vec z.pc cs8_ 0 z.su z.ie (IntKind.u64.wrap (z.cnt + 1)) z.ha), 27, false⟩, (uCo (D ++ jD) false), (uCo (R ++ jR) false), (uCo D false), (uCo R false), some ⟨(rlw z.vec (s1 13 D.length) (s1 14 R.length) z.fl true z.pg false z.root z.vec z.pc cs8_ 0 z.su z.ie (IntKind.u64.wrap (z.cnt + 1)) z.ha true false (.slice none 0 0)), 52, false⟩]) kr kr kr kr kr ⟨kr, kr, kr⟩ ?_
          refine sq_run 1 ?_
          refine sq_end kr ?_
          refine sd_run 5 (sd_see 82 (.int .i64 ((j + 1 : Nat) : Int)) (see_int (x := (IntKind.i64.wrap ((j : Int) + 1))) kr (w64 (by omega) (by omega) (by omega))) (sd_run 2 ?_))
          refine sd_inv R5_ kr (hR5_ _ (m.length - (j + 1)) _ (emOf [some 0, some 1, some 2, some 3, some 4, some 5, some 6, some 7, some 8, some 9, some 10, some 13, some 14]) (by omega) ⟨j + 1, (⟨z.vec, z.fl, z.root, z.vec, z.pc, cs8_, 0, (IntKind.u64.wrap (z.cnt + 1)), true, z.pg, false, z.su, z.ie, z.ha⟩ : Sx), D, [], R, [], true, rfl, (by omega), (linv_no i5_1 ha7 hcan _ _ _), rfl⟩ ⟨sub_of kr kr ⟨inC_b, uC_b, jjC_b, iiC_b, inC_b, inC_b, brn, uC_b, uC_b, brn, brn, bk_flat (tab uC D) kr (tab_plain uC_pl _) (congrArg (tab uC) (List.append_nil _).symm), bk_flat (tab uC R) kr (tab_plain uC_pl _) (congrArg (tab uC) (List.append_nil _).symm), ⟨⟩⟩, te_of kr kr⟩ kr)
        ·skip
         obtain rfl : j = m.length := by omega
         refine sd_run 7 (sdF 76 ((m.length : Int) < (m.length : Int)) (by omega) kr (sd_run 13 ?_))
         obtain ⟨hz1, hz2, hz3, hz4, hz5, hz6, hz7⟩ := i5_1.no rfl
         obtain ⟨hF, _⟩ := hEs _ _ _ _ hz1
         obtain ⟨_, ⟨hw1, hw2⟩, hw3, hw4⟩ := fitsB_iff.1 hF
         simp only [List.length_replicate] at hw1 hw2 hw3 hw4
         have q3 := hR.nd_; have q4 := hR.nr_; have q5 := hR.hd_; have q6 := hR.hr_
         refine sd_drawP kr ?_
         refine svp_go 2 ?_
         refine svp_line ?_
         refine sv_callp 95 15 #[(pgV (s5 3 C3_.length) nd3_ nr3_ hd3_ hr3_ (s1 4 OD3_.length) (s1 5 RD3_.length) f13_ nx3_ t13_ br3_ tk3_ (m.length : Int) (C3_.length : Int)), (stw pc (.slice (some ⟨7, 0, none⟩) ((List.replicate n (0 : Int)).length) n) (.slice (some ⟨8, 0, none⟩) ((List.replicate k (0 : Int)).length) k) 0 false false false 0 0 0 0 0 false false 0 false)] (@fits_s C3_ OD3_ RD3_ nd3_ nr3_ hd3_ hr3_ f13_ nx3_ t13_ br3_ tk3_ (m.length : Int) (C3_.length : Int) (⟨pc, 0, 0, 0, 0, 0, 0, 0, false, false, false, false, false, false⟩ : Sx) (List.replicate n (0 : Int)) [] (List.replicate k (0 : Int)) [] false n k hR (by omega) (by omega) hi) [some 3, some 4, some 5, some 7, some 8] kr kr kr (hn_of 0 kr ⟨iiC_b, inC_b, inC_b, bk_flat (tab uC (List.replicate n (0 : Int))) kr (tab_plain uC_pl _) (congrArg (tab uC) (List.append_nil _).symm), bk_flat (tab uC (List.replicate k (0 : Int))) kr (tab_plain uC_pl _) (congrArg (tab uC) (List.append_nil _).symm), ⟨⟩⟩) kr kr ?_
         rintro v9 k9 ⟨rfl, rfl⟩
         refine ⟨rfl, .bool (fitsB nd3_ nr3_ hd3_ hr3_ (List.replicate n (0 : Int)) (List.replicate k (0 : Int)) 0), kr, ?_⟩
         refine sv_see 95 (.bool true) (see_bool kr hF) ?_
         refine sv_run 5 ?_
         refine sv_callp 101 15 #[(pgV (s5 3 C3_.length) nd3_ nr3_ hd3_ hr3_ (s1 4 OD3_.length) (s1 5 RD3_.length) f13_ nx3_ t13_ br3_ tk3_ (m.length : Int) (C3_.length : Int)), (stw pc (.slice (some ⟨7, 0, none⟩) ((List.replicate n (0 : Int)).length) n) (.slice (some ⟨8, 0, none⟩) ((List.replicate k (0 : Int)).length) k) 0 false false false 0 0 0 0 0 false false 0 false)] (@fits_s C3_ OD3_ RD3_ nd3_ nr3_ hd3_ hr3_ f13_ nx3_ t13_ br3_ tk3_ (m.length : Int) (C3_.length : Int) (⟨pc, 0, 0, 0, 0, 0, 0, 0, false, false, false, false, false, false⟩ : Sx) (List.replicate n (0 : Int)) [] (List.replicate k (0 : Int)) [] false n k hR (by omega) (by omega) hi) [some 3, some 4, some 5, some 7, some 8] kr kr kr (hn_of 0 kr ⟨iiC_b, inC_b, inC_b, bk_flat (tab uC (List.replicate n (0 : Int))) kr (tab_plain uC_pl _) (congrArg (tab uC) (List.append_nil _).symm), bk_flat (tab uC (List.replicate k (0 : Int))) kr (tab_plain uC_pl _) (congrArg (tab uC) (List.append_nil _).symm), ⟨⟩⟩) kr kr ?_
         rintro v9 k9 ⟨rfl, rfl⟩
         refine ⟨rfl, .bool (fitsB nd3_ nr3_ hd3_ hr3_ (List.replicate n (0 : Int)) (List.replicate k (0 : Int)) 0), kr, ?_⟩
         refine sv_see 101 (.bool true) (see_bool kr hF) ?_
         refine sv_run 2 ?_
         refine sv_rd 104 (.int .i64 nd3_) 3 6 1 kr kr kr kr (veq_int _ _) kr ?_
         refine sv_run 1 ?_
         refine sv_see 105 (.bool true) (see_bool kr ((decide_eq_true (by omega)) : (decide ((n : Int) ≥ nd3_)) = true)) ?_
         refine sv_run 5 ?_
         refine sv_see 110 (.int .i64 ((n : Int) + hd3_)) (see_int (x := (IntKind.i64.wrap ((n : Int) + hd3_))) kr (w64 (by omega) (by omega) (by omega))) ?_
         refine sv_run 1 ?_
         refine sv_see 111 (.bool true) (see_bool kr ((decide_eq_true (by omega)) : (decide (((n : Int) + hd3_) ≤ 16)) = true)) ?_
         refine sv_run 6 ?_
         refine sv_see 117 (.bool true) (see_bool kr ((decide_eq_true (by omega)) : (decide ((k : Int) ≥ nr3_)) = true)) ?_
         refine sv_run 6 ?_
         refine sv_see 123 (.int .i64 ((k : Int) + hr3_)) (see_int (x := (IntKind.i64.wrap ((k : Int) + hr3_))) kr (w64 (by omega) (by omega) (by omega))) ?_
         refine sv_run 1 ?_
         refine sv_see 124 (.bool true) (see_bool kr ((decide_eq_true (by omega)) : (decide (((k : Int) + hr3_) ≤ 16)) = true)) ?_
         refine sv_run 3 ?_
         refine sv_end kr ?_
         refine sd_run 8 (sd_see 65 (.int .i64 ((k + 4 : Nat) : Int)) (see_int (x := (IntKind.i64.wrap ((k : Int) + 4))) kr (w64 (by omega) (by omega) (by omega))) (sd_run 2 ?_))
         refine sd_inv R4_ kr (hR4_ _ (20 - (k + 4)) _ e7_ (by omega) ⟨k + 4, rfl, (by omega), rfl⟩ ⟨sub_of kr kr ⟨inC_b, uC_b, jjC_b, iiC_b, inC_b, inC_b, brn, ⟨⟩⟩, te_of kr kr⟩ kr)
      ·skip
       have hcan := eq_false_of_ne_true hcan
       refine sd_run 8 (sdT 76 ((0 : Int) < (m.length : Int)) (by omega) kr (sd_run 16 (sd_ix 86 (.pointer (some ⟨2, 0 + 0 * 2, none⟩)) 0 m.length kr kr kr (by omega) (sd_ld 87 (.agg #[.int .i64 a5.1, .int .u32 a5.2]) 30 (.pointer (some ⟨2, 0 + 0 * 2, none⟩)) kr kr kr (ld_row (l := m) (e := 30) (ro := false) (k := 0) jjC_len kr kr kr ha5) (sdC 88 16 #[(stw pc (.slice (some ⟨7, 0, none⟩) ((List.replicate n (0 : Int)).length) n) (.slice (some ⟨8, 0, none⟩) ((List.replicate k (0 : Int)).length) k) 0 false false false 0 0 0 0 0 false false 0 false), .agg #[.int .i64 a5.1, .int .u32 a5.2], .pointer none, .pointer none] (@do_trap (⟨pc, 0, 0, 0, 0, 0, 0, 0, false, false, false, false, false, false⟩ : Sx) (List.replicate n (0 : Int)) [] (List.replicate k (0 : Int)) [] n k a5.1 a5.2 false hpl hri hdl hrl hfl.2 hcan) [some 7, some 8] ⟨bk_flat (tab uC (List.replicate n (0 : Int))) kr (tab_plain uC_pl _) (congrArg (tab uC) (List.append_nil _).symm), bk_flat (tab uC (List.replicate k (0 : Int))) kr (tab_plain uC_pl _) (congrArg (tab uC) (List.append_nil _).symm), ⟨⟩⟩ ?_)))))
       rintro hn9 v9 k9 ⟨cs9_, rfl, rfl⟩
       refine mkG (rsw 0 (s1 11 ((List.replicate n (0 : Int)).length)) (s1 12 ((List.replicate k (0 : Int)).length)) 0 true false false 0 0 pc cs9_ 0 false false (IntKind.u64.wrap (0 + 1)) false true false (.slice none 0 0)) [(inCo xl true), (uCo xv true), (jjCo m false), (iiCo C3_ false), (inCo OD3_ false), (inCo RD3_ false), some ⟨[(s5 3 C3_.length), .int .i64 nd3_, .int .i64 nr3_, .int .i64 hd3_, .int .i64 hr3_, (s1 4 OD3_.length), (s1 5 RD3_.length), .int .i64 f13_, .int .u32 nx3_, .int .i64 t13_, .int .i64 br3_, .int .u32 tk3_, .int .i64 (m.length : Int), .int .i64 (C3_.length : Int)], 38, false⟩, (uCo (List.replicate n (0 : Int)) false), (uCo (List.replicate k (0 : Int)) false), some ⟨(slw pc (.slice (some ⟨7, 0, none⟩) ((List.replicate n (0 : Int)).length) n) (.slice (some ⟨8, 0, none⟩) ((List.replicate k (0 : Int)).length) k) 0 false false false 0 0 0 0 0 false false 0 false), 27, false⟩, some ⟨(slw pc (.slice (some ⟨7, 0, none⟩) ((List.replicate n (0 : Int)).length) n) (.slice (some ⟨8, 0, none⟩) ((List.replicate k (0 : Int)).length) k) 0 false false false 0 0 0 0 0 false false 0 false), 27, false⟩, (uCo (List.replicate n (0 : Int)) false), (uCo (List.replicate k (0 : Int)) false)] ⟨cvo, cvo, cvo, cvo, cvo, cvo, cvo, cvs 0 hn9, cvs 1 hn9, cvo, cvo, uC_c 2, uC_c 3, ⟨⟩⟩ ?_
       refine sd_run 4 (sd_drawQ [(3, 4)] kr kr ?_)
       refine sq_run 3 ?_
       refine sq_rd 92 (.bool true) (.pointer (some ⟨13, 16, none⟩)) 4 kr kr kr kr (by simp [veq, veq0]) kr ?_
       refine sq_sto (hq [(inCo xl true), (uCo xv true), (jjCo m false), (iiCo C3_ false), (inCo OD3_ false), (inCo RD3_ false), some ⟨[(s5 3 C3_.length), .int .i64 nd3_, .int .i64 nr3_, .int .i64 hd3_, .int .i64 hr3_, (s1 4 OD3_.length), (s1 5 RD3_.length), .int .i64 f13_, .int .u32 nx3_, .int .i64 t13_, .int .i64 br3_, .int .u32 tk3_, .int .i64 (m.length : Int), .int .i64 (C3_.length : Int)], 38, false⟩, (uCo (List.replicate n (0 : Int)) false), (uCo (List.replicate k (0 : Int)) false), some ⟨(slw pc (.slice (some ⟨7, 0, none⟩) ((List.replicate n (0 : Int)).length) n) (.slice (some ⟨8, 0, none⟩) ((List.replicate k (0 : Int)).length) k) 0 false false false 0 0 0 0 0 false false 0 false), 27, false⟩, some ⟨(slw 0 (s1 11 ((List.replicate n (0 : Int)).length)) (s1 12 ((List.replicate k (0 : Int)).length)) 0 true false false 0 0 pc cs9_ 0 false false (IntKind.u64.wrap (0 + 1)) false), 27, false⟩, (uCo (List.replicate n (0 : Int)) false), (uCo (List.replicate k (0 : Int)) false), some ⟨(rlw 0 (s1 11 ((List.replicate n (0 : Int)).length)) (s1 12 ((List.replicate k (0 : Int)).length)) 0 true false false 0 0 pc cs9_ 0 false false (IntKind.u64.wrap (0 + 1)) false true false (.slice none 0 0)), 52, false⟩]) kr kr kr kr kr ⟨kr, kr, kr⟩ ?_
       refine sq_run 1 ?_
       refine sq_end kr ?_
       refine sd_run 8 ?_
       have hY := (linv_no hLI ha5 hcan ⟨0, 0, 0, 0, 0, 0, 0, 0, false, false, false, false, false, false⟩ [] []).yes rfl
       by_cases hl1 : 1 < m.length
       ·skip
        refine sd_run 8 (sdT 76 ((1 : Int) < (m.length : Int)) (by omega) kr (sd_run 13 ?_))
        have hF := hEn hY
        have hF2 := not_fit hF hdl hrl (by decide)
        simp only [List.length_replicate] at hF2
        have q3 := hR.nd_; have q4 := hR.nr_; have q5 := hR.hd_; have q6 := hR.hr_
        rcases (by omega : (n : Int) < nd3_ ∨ (nd3_ ≤ (n : Int) ∧ 16 < (n : Int) + hd3_) ∨ (nd3_ ≤ (n : Int) ∧ (n : Int) + hd3_ ≤ 16 ∧ (k : Int) < nr3_) ∨ (nd3_ ≤ (n : Int) ∧ (n : Int) + hd3_ ≤ 16 ∧ nr3_ ≤ (k : Int) ∧ 16 < (k : Int) + hr3_)) with hw | hw | hw | hw
        ·skip
         refine sd_drawP kr ?_
         refine svp_go 2 ?_
         refine svp_line ?_
         refine sv_callp 95 15 #[(pgV (s5 3 C3_.length) nd3_ nr3_ hd3_ hr3_ (s1 4 OD3_.length) (s1 5 RD3_.length) f13_ nx3_ t13_ br3_ tk3_ (m.length : Int) (C3_.length : Int)), (stw pc (.slice (some ⟨7, 0, none⟩) ((List.replicate n (0 : Int)).length) n) (.slice (some ⟨8, 0, none⟩) ((List.replicate k (0 : Int)).length) k) 0 false false false 0 0 0 0 0 false false 0 false)] (@fits_s C3_ OD3_ RD3_ nd3_ nr3_ hd3_ hr3_ f13_ nx3_ t13_ br3_ tk3_ (m.length : Int) (C3_.length : Int) (⟨pc, 0, 0, 0, 0, 0, 0, 0, false, false, false, false, false, false⟩ : Sx) (List.replicate n (0 : Int)) [] (List.replicate k (0 : Int)) [] false n k hR (by omega) (by omega) hi) [some 3, some 4, some 5, some 7, some 8] kr kr kr (hn_of 0 kr ⟨iiC_b, inC_b, inC_b, bk_flat (tab uC (List.replicate n (0 : Int))) kr (tab_plain uC_pl _) (congrArg (tab uC) (List.append_nil _).symm), bk_flat (tab uC (List.replicate k (0 : Int))) kr (tab_plain uC_pl _) (congrArg (tab uC) (List.append_nil _).symm), ⟨⟩⟩) kr kr ?_
         rintro v9 k9 ⟨rfl, rfl⟩
         refine ⟨rfl, .bool (fitsB nd3_ nr3_ hd3_ hr3_ (List.replicate n (0 : Int)) (List.replicate k (0 : Int)) 0), kr, ?_⟩
         refine sv_see 95 (.bool false) (see_bool kr hF) ?_
         refine sv_run 5 ?_
         refine sv_callp 101 15 #[(pgV (s5 3 C3_.length) nd3_ nr3_ hd3_ hr3_ (s1 4 OD3_.length) (s1 5 RD3_.length) f13_ nx3_ t13_ br3_ tk3_ (m.length : Int) (C3_.length : Int)), (stw pc (.slice (some ⟨7, 0, none⟩) ((List.replicate n (0 : Int)).length) n) (.slice (some ⟨8, 0, none⟩) ((List.replicate k (0 : Int)).length) k) 0 false false false 0 0 0 0 0 false false 0 false)] (@fits_s C3_ OD3_ RD3_ nd3_ nr3_ hd3_ hr3_ f13_ nx3_ t13_ br3_ tk3_ (m.length : Int) (C3_.length : Int) (⟨pc, 0, 0, 0, 0, 0, 0, 0, false, false, false, false, false, false⟩ : Sx) (List.replicate n (0 : Int)) [] (List.replicate k (0 : Int)) [] false n k hR (by omega) (by omega) hi) [some 3, some 4, some 5, some 7, some 8] kr kr kr (hn_of 0 kr ⟨iiC_b, inC_b, inC_b, bk_flat (tab uC (List.replicate n (0 : Int))) kr (tab_plain uC_pl _) (congrArg (tab uC) (List.append_nil _).symm), bk_flat (tab uC (List.replicate k (0 : Int))) kr (tab_plain uC_pl _) (congrArg (tab uC) (List.append_nil _).symm), ⟨⟩⟩) kr kr ?_
         rintro v9 k9 ⟨rfl, rfl⟩
         refine ⟨rfl, .bool (fitsB nd3_ nr3_ hd3_ hr3_ (List.replicate n (0 : Int)) (List.replicate k (0 : Int)) 0), kr, ?_⟩
         refine sv_see 101 (.bool false) (see_bool kr hF) ?_
         refine sv_run 2 ?_
         refine sv_rd 104 (.int .i64 nd3_) 3 6 1 kr kr kr kr (veq_int _ _) kr ?_
         refine sv_run 1 ?_
         refine sv_see 105 (.bool false) (see_bool kr ((decide_eq_false (by omega)) : (decide ((n : Int) ≥ nd3_)) = false)) ?_
         refine sv_run 22 ?_
         refine sv_end kr ?_
         refine sd_run 8 (sd_see 65 (.int .i64 ((k + 4 : Nat) : Int)) (see_int (x := (IntKind.i64.wrap ((k : Int) + 4))) kr (w64 (by omega) (by omega) (by omega))) (sd_run 2 ?_))
         refine sd_inv R4_ kr (hR4_ _ (20 - (k + 4)) _ e7_ (by omega) ⟨k + 4, rfl, (by omega), rfl⟩ ⟨sub_of kr kr ⟨inC_b, uC_b, jjC_b, iiC_b, inC_b, inC_b, brn, ⟨⟩⟩, te_of kr kr⟩ kr)
        ·skip
         refine sd_drawP kr ?_
         refine svp_go 2 ?_
         refine svp_line ?_
         refine sv_callp 95 15 #[(pgV (s5 3 C3_.length) nd3_ nr3_ hd3_ hr3_ (s1 4 OD3_.length) (s1 5 RD3_.length) f13_ nx3_ t13_ br3_ tk3_ (m.length : Int) (C3_.length : Int)), (stw pc (.slice (some ⟨7, 0, none⟩) ((List.replicate n (0 : Int)).length) n) (.slice (some ⟨8, 0, none⟩) ((List.replicate k (0 : Int)).length) k) 0 false false false 0 0 0 0 0 false false 0 false)] (@fits_s C3_ OD3_ RD3_ nd3_ nr3_ hd3_ hr3_ f13_ nx3_ t13_ br3_ tk3_ (m.length : Int) (C3_.length : Int) (⟨pc, 0, 0, 0, 0, 0, 0, 0, false, false, false, false, false, false⟩ : Sx) (List.replicate n (0 : Int)) [] (List.replicate k (0 : Int)) [] false n k hR (by omega) (by omega) hi) [some 3, some 4, some 5, some 7, some 8] kr kr kr (hn_of 0 kr ⟨iiC_b, inC_b, inC_b, bk_flat (tab uC (List.replicate n (0 : Int))) kr (tab_plain uC_pl _) (congrArg (tab uC) (List.append_nil _).symm), bk_flat (tab uC (List.replicate k (0 : Int))) kr (tab_plain uC_pl _) (congrArg (tab uC) (List.append_nil _).symm), ⟨⟩⟩) kr kr ?_
         rintro v9 k9 ⟨rfl, rfl⟩
         refine ⟨rfl, .bool (fitsB nd3_ nr3_ hd3_ hr3_ (List.replicate n (0 : Int)) (List.replicate k (0 : Int)) 0), kr, ?_⟩
         refine sv_see 95 (.bool false) (see_bool kr hF) ?_
         refine sv_run 5 ?_
         refine sv_callp 101 15 #[(pgV (s5 3 C3_.length) nd3_ nr3_ hd3_ hr3_ (s1 4 OD3_.length) (s1 5 RD3_.length) f13_ nx3_ t13_ br3_ tk3_ (m.length : Int) (C3_.length : Int)), (stw pc (.slice (some ⟨7, 0, none⟩) ((List.replicate n (0 : Int)).length) n) (.slice (some ⟨8, 0, none⟩) ((List.replicate k (0 : Int)).length) k) 0 false false false 0 0 0 0 0 false false 0 false)] (@fits_s C3_ OD3_ RD3_ nd3_ nr3_ hd3_ hr3_ f13_ nx3_ t13_ br3_ tk3_ (m.length : Int) (C3_.length : Int) (⟨pc, 0, 0, 0, 0, 0, 0, 0, false, false, false, false, false, false⟩ : Sx) (List.replicate n (0 : Int)) [] (List.replicate k (0 : Int)) [] false n k hR (by omega) (by omega) hi) [some 3, some 4, some 5, some 7, some 8] kr kr kr (hn_of 0 kr ⟨iiC_b, inC_b, inC_b, bk_flat (tab uC (List.replicate n (0 : Int))) kr (tab_plain uC_pl _) (congrArg (tab uC) (List.append_nil _).symm), bk_flat (tab uC (List.replicate k (0 : Int))) kr (tab_plain uC_pl _) (congrArg (tab uC) (List.append_nil _).symm), ⟨⟩⟩) kr kr ?_
         rintro v9 k9 ⟨rfl, rfl⟩
         refine ⟨rfl, .bool (fitsB nd3_ nr3_ hd3_ hr3_ (List.replicate n (0 : Int)) (List.replicate k (0 : Int)) 0), kr, ?_⟩
         refine sv_see 101 (.bool false) (see_bool kr hF) ?_
         refine sv_run 2 ?_
         refine sv_rd 104 (.int .i64 nd3_) 3 6 1 kr kr kr kr (veq_int _ _) kr ?_
         refine sv_run 1 ?_
         refine sv_see 105 (.bool true) (see_bool kr ((decide_eq_true (by omega)) : (decide ((n : Int) ≥ nd3_)) = true)) ?_
         refine sv_run 5 ?_
         refine sv_see 110 (.int .i64 ((n : Int) + hd3_)) (see_int (x := (IntKind.i64.wrap ((n : Int) + hd3_))) kr (w64 (by omega) (by omega) (by omega))) ?_
         refine sv_run 1 ?_
         refine sv_see 111 (.bool false) (see_bool kr ((decide_eq_false (by omega)) : (decide (((n : Int) + hd3_) ≤ 16)) = false)) ?_
         refine sv_run 16 ?_
         refine sv_end kr ?_
         refine sd_run 8 (sd_see 65 (.int .i64 ((k + 4 : Nat) : Int)) (see_int (x := (IntKind.i64.wrap ((k : Int) + 4))) kr (w64 (by omega) (by omega) (by omega))) (sd_run 2 ?_))
         refine sd_inv R4_ kr (hR4_ _ (20 - (k + 4)) _ e7_ (by omega) ⟨k + 4, rfl, (by omega), rfl⟩ ⟨sub_of kr kr ⟨inC_b, uC_b, jjC_b, iiC_b, inC_b, inC_b, brn, ⟨⟩⟩, te_of kr kr⟩ kr)
        ·skip
         refine sd_drawP kr ?_
         refine svp_go 2 ?_
         refine svp_line ?_
         refine sv_callp 95 15 #[(pgV (s5 3 C3_.length) nd3_ nr3_ hd3_ hr3_ (s1 4 OD3_.length) (s1 5 RD3_.length) f13_ nx3_ t13_ br3_ tk3_ (m.length : Int) (C3_.length : Int)), (stw pc (.slice (some ⟨7, 0, none⟩) ((List.replicate n (0 : Int)).length) n) (.slice (some ⟨8, 0, none⟩) ((List.replicate k (0 : Int)).length) k) 0 false false false 0 0 0 0 0 false false 0 false)] (@fits_s C3_ OD3_ RD3_ nd3_ nr3_ hd3_ hr3_ f13_ nx3_ t13_ br3_ tk3_ (m.length : Int) (C3_.length : Int) (⟨pc, 0, 0, 0, 0, 0, 0, 0, false, false, false, false, false, false⟩ : Sx) (List.replicate n (0 : Int)) [] (List.replicate k (0 : Int)) [] false n k hR (by omega) (by omega) hi) [some 3, some 4, some 5, some 7, some 8] kr kr kr (hn_of 0 kr ⟨iiC_b, inC_b, inC_b, bk_flat (tab uC (List.replicate n (0 : Int))) kr (tab_plain uC_pl _) (congrArg (tab uC) (List.append_nil _).symm), bk_flat (tab uC (List.replicate k (0 : Int))) kr (tab_plain uC_pl _) (congrArg (tab uC) (List.append_nil _).symm), ⟨⟩⟩) kr kr ?_
         rintro v9 k9 ⟨rfl, rfl⟩
         refine ⟨rfl, .bool (fitsB nd3_ nr3_ hd3_ hr3_ (List.replicate n (0 : Int)) (List.replicate k (0 : Int)) 0), kr, ?_⟩
         refine sv_see 95 (.bool false) (see_bool kr hF) ?_
         refine sv_run 5 ?_
         refine sv_callp 101 15 #[(pgV (s5 3 C3_.length) nd3_ nr3_ hd3_ hr3_ (s1 4 OD3_.length) (s1 5 RD3_.length) f13_ nx3_ t13_ br3_ tk3_ (m.length : Int) (C3_.length : Int)), (stw pc (.slice (some ⟨7, 0, none⟩) ((List.replicate n (0 : Int)).length) n) (.slice (some ⟨8, 0, none⟩) ((List.replicate k (0 : Int)).length) k) 0 false false false 0 0 0 0 0 false false 0 false)] (@fits_s C3_ OD3_ RD3_ nd3_ nr3_ hd3_ hr3_ f13_ nx3_ t13_ br3_ tk3_ (m.length : Int) (C3_.length : Int) (⟨pc, 0, 0, 0, 0, 0, 0, 0, false, false, false, false, false, false⟩ : Sx) (List.replicate n (0 : Int)) [] (List.replicate k (0 : Int)) [] false n k hR (by omega) (by omega) hi) [some 3, some 4, some 5, some 7, some 8] kr kr kr (hn_of 0 kr ⟨iiC_b, inC_b, inC_b, bk_flat (tab uC (List.replicate n (0 : Int))) kr (tab_plain uC_pl _) (congrArg (tab uC) (List.append_nil _).symm), bk_flat (tab uC (List.replicate k (0 : Int))) kr (tab_plain uC_pl _) (congrArg (tab uC) (List.append_nil _).symm), ⟨⟩⟩) kr kr ?_
         rintro v9 k9 ⟨rfl, rfl⟩
         refine ⟨rfl, .bool (fitsB nd3_ nr3_ hd3_ hr3_ (List.replicate n (0 : Int)) (List.replicate k (0 : Int)) 0), kr, ?_⟩
         refine sv_see 101 (.bool false) (see_bool kr hF) ?_
         refine sv_run 2 ?_
         refine sv_rd 104 (.int .i64 nd3_) 3 6 1 kr kr kr kr (veq_int _ _) kr ?_
         refine sv_run 1 ?_
         refine sv_see 105 (.bool true) (see_bool kr ((decide_eq_true (by omega)) : (decide ((n : Int) ≥ nd3_)) = true)) ?_
         refine sv_run 5 ?_
         refine sv_see 110 (.int .i64 ((n : Int) + hd3_)) (see_int (x := (IntKind.i64.wrap ((n : Int) + hd3_))) kr (w64 (by omega) (by omega) (by omega))) ?_
         refine sv_run 1 ?_
         refine sv_see 111 (.bool true) (see_bool kr ((decide_eq_true (by omega)) : (decide (((n : Int) + hd3_) ≤ 16)) = true)) ?_
         refine sv_run 6 ?_
         refine sv_see 117 (.bool false) (see_bool kr ((decide_eq_false (by omega)) : (decide ((k : Int) ≥ nr3_)) = false)) ?_
         refine sv_run 10 ?_
         refine sv_end kr ?_
         refine sd_run 8 (sd_see 65 (.int .i64 ((k + 4 : Nat) : Int)) (see_int (x := (IntKind.i64.wrap ((k : Int) + 4))) kr (w64 (by omega) (by omega) (by omega))) (sd_run 2 ?_))
         refine sd_inv R4_ kr (hR4_ _ (20 - (k + 4)) _ e7_ (by omega) ⟨k + 4, rfl, (by omega), rfl⟩ ⟨sub_of kr kr ⟨inC_b, uC_b, jjC_b, iiC_b, inC_b, inC_b, brn, ⟨⟩⟩, te_of kr kr⟩ kr)
        ·skip
         refine sd_drawP kr ?_
         refine svp_go 2 ?_
         refine svp_line ?_
         refine sv_callp 95 15 #[(pgV (s5 3 C3_.length) nd3_ nr3_ hd3_ hr3_ (s1 4 OD3_.length) (s1 5 RD3_.length) f13_ nx3_ t13_ br3_ tk3_ (m.length : Int) (C3_.length : Int)), (stw pc (.slice (some ⟨7, 0, none⟩) ((List.replicate n (0 : Int)).length) n) (.slice (some ⟨8, 0, none⟩) ((List.replicate k (0 : Int)).length) k) 0 false false false 0 0 0 0 0 false false 0 false)] (@fits_s C3_ OD3_ RD3_ nd3_ nr3_ hd3_ hr3_ f13_ nx3_ t13_ br3_ tk3_ (m.length : Int) (C3_.length : Int) (⟨pc, 0, 0, 0, 0, 0, 0, 0, false, false, false, false, false, false⟩ : Sx) (List.replicate n (0 : Int)) [] (List.replicate k (0 : Int)) [] false n k hR (by omega) (by omega) hi) [some 3, some 4, some 5, some 7, some 8] kr kr kr (hn_of 0 kr ⟨iiC_b, inC_b, inC_b, bk_flat (tab uC (List.replicate n (0 : Int))) kr (tab_plain uC_pl _) (congrArg (tab uC) (List.append_nil _).symm), bk_flat (tab uC (List.replicate k (0 : Int))) kr (tab_plain uC_pl _) (congrArg (tab uC) (List.append_nil _).symm), ⟨⟩⟩) kr kr ?_
         rintro v9 k9 ⟨rfl, rfl⟩
         refine ⟨rfl, .bool (fitsB nd3_ nr3_ hd3_ hr3_ (List.replicate n (0 : Int)) (List.replicate k (0 : Int)) 0), kr, ?_⟩
         refine sv_see 95 (.bool false) (see_bool kr hF) ?_
         refine sv_run 5 ?_
         refine sv_callp 101 15 #[(pgV (s5 3 C3_.length) nd3_ nr3_ hd3_ hr3_ (s1 4 OD3_.length) (s1 5 RD3_.length) f13_ nx3_ t13_ br3_ tk3_ (m.length : Int) (C3_.length : Int)), (stw pc (.slice (some ⟨7, 0, none⟩) ((List.replicate n (0 : Int)).length) n) (.slice (some ⟨8, 0, none⟩) ((List.replicate k (0 : Int)).length) k) 0 false false false 0 0 0 0 0 false false 0 false)] (@fits_s C3_ OD3_ RD3_ nd3_ nr3_ hd3_ hr3_ f13_ nx3_ t13_ br3_ tk3_ (m.length : Int) (C3_.length : Int) (⟨pc, 0, 0, 0, 0, 0, 0, 0, false, false, false, false, false, false⟩ : Sx) (List.replicate n (0 : Int)) [] (List.replicate k (0 : Int)) [] false n k hR (by omega) (by omega) hi) [some 3, some 4, some 5, some 7, some 8] kr kr kr (hn_of 0 kr ⟨iiC_b, inC_b, inC_b, bk_flat (tab uC (List.replicate n (0 : Int))) kr (tab_plain uC_pl _) (congrArg (tab uC) (List.append_nil _).symm), bk_flat (tab uC (List.replicate k (0 : Int))) kr (tab_plain uC_pl _) (congrArg (tab uC) (List.append_nil _).symm), ⟨⟩⟩) kr kr ?_
         rintro v9 k9 ⟨rfl, rfl⟩
         refine ⟨rfl, .bool (fitsB nd3_ nr3_ hd3_ hr3_ (List.replicate n (0 : Int)) (List.replicate k (0 : Int)) 0), kr, ?_⟩
         refine sv_see 101 (.bool false) (see_bool kr hF) ?_
         refine sv_run 2 ?_
         refine sv_rd 104 (.int .i64 nd3_) 3 6 1 kr kr kr kr (veq_int _ _) kr ?_
         refine sv_run 1 ?_
         refine sv_see 105 (.bool true) (see_bool kr ((decide_eq_true (by omega)) : (decide ((n : Int) ≥ nd3_)) = true)) ?_
         refine sv_run 5 ?_
         refine sv_see 110 (.int .i64 ((n : Int) + hd3_)) (see_int (x := (IntKind.i64.wrap ((n : Int) + hd3_))) kr (w64 (by omega) (by omega) (by omega))) ?_
         refine sv_run 1 ?_
         refine sv_see 111 (.bool true) (see_bool kr ((decide_eq_true (by omega)) : (decide (((n : Int) + hd3_) ≤ 16)) = true)) ?_
         refine sv_run 6 ?_
         refine sv_see 117 (.bool true) (see_bool kr ((decide_eq_true (by omega)) : (decide ((k : Int) ≥ nr3_)) = true)) ?_
         refine sv_run 6 ?_
         refine sv_see 123 (.int .i64 ((k : Int) + hr3_)) (see_int (x := (IntKind.i64.wrap ((k : Int) + hr3_))) kr (w64 (by omega) (by omega) (by omega))) ?_
         refine sv_run 1 ?_
         refine sv_see 124 (.bool false) (see_bool kr ((decide_eq_false (by omega)) : (decide (((k : Int) + hr3_) ≤ 16)) = false)) ?_
         refine sv_run 3 ?_
         refine sv_end kr ?_
         refine sd_run 8 (sd_see 65 (.int .i64 ((k + 4 : Nat) : Int)) (see_int (x := (IntKind.i64.wrap ((k : Int) + 4))) kr (w64 (by omega) (by omega) (by omega))) (sd_run 2 ?_))
         refine sd_inv R4_ kr (hR4_ _ (20 - (k + 4)) _ e7_ (by omega) ⟨k + 4, rfl, (by omega), rfl⟩ ⟨sub_of kr kr ⟨inC_b, uC_b, jjC_b, iiC_b, inC_b, inC_b, brn, ⟨⟩⟩, te_of kr kr⟩ kr)
       ·skip
        refine sd_run 8 (sdF 76 ((1 : Int) < (m.length : Int)) (by omega) kr (sd_run 13 ?_))
        have hF := hEn hY
        have hF2 := not_fit hF hdl hrl (by decide)
        simp only [List.length_replicate] at hF2
        have q3 := hR.nd_; have q4 := hR.nr_; have q5 := hR.hd_; have q6 := hR.hr_
        rcases (by omega : (n : Int) < nd3_ ∨ (nd3_ ≤ (n : Int) ∧ 16 < (n : Int) + hd3_) ∨ (nd3_ ≤ (n : Int) ∧ (n : Int) + hd3_ ≤ 16 ∧ (k : Int) < nr3_) ∨ (nd3_ ≤ (n : Int) ∧ (n : Int) + hd3_ ≤ 16 ∧ nr3_ ≤ (k : Int) ∧ 16 < (k : Int) + hr3_)) with hw | hw | hw | hw
        ·skip
         refine sd_drawP kr ?_
         refine svp_go 2 ?_
         refine svp_line ?_
         refine sv_callp 95 15 #[(pgV (s5 3 C3_.length) nd3_ nr3_ hd3_ hr3_ (s1 4 OD3_.length) (s1 5 RD3_.length) f13_ nx3_ t13_ br3_ tk3_ (m.length : Int) (C3_.length : Int)), (stw pc (.slice (some ⟨7, 0, none⟩) ((List.replicate n (0 : Int)).length) n) (.slice (some ⟨8, 0, none⟩) ((List.replicate k (0 : Int)).length) k) 0 false false false 0 0 0 0 0 false false 0 false)] (@fits_s C3_ OD3_ RD3_ nd3_ nr3_ hd3_ hr3_ f13_ nx3_ t13_ br3_ tk3_ (m.length : Int) (C3_.length : Int) (⟨pc, 0, 0, 0, 0, 0, 0, 0, false, false, false, false, false, false⟩ : Sx) (List.replicate n (0 : Int)) [] (List.replicate k (0 : Int)) [] false n k hR (by omega) (by omega) hi) [some 3, some 4, some 5, some 7, some 8] kr kr kr (hn_of 0 kr ⟨iiC_b, inC_b, inC_b, bk_flat (tab uC (List.replicate n (0 : Int))) kr (tab_plain uC_pl _) (congrArg (tab uC) (List.append_nil _).symm), bk_flat (tab uC (List.replicate k (0 : Int))) kr (tab_plain uC_pl _) (congrArg (tab uC) (List.append_nil _).symm), ⟨⟩⟩) kr kr ?_
         rintro v9 k9 ⟨rfl, rfl⟩
         refine ⟨rfl, .bool (fitsB nd3_ nr3_ hd3_ hr3_ (List.replicate n (0 : Int)) (List.replicate k (0 : Int)) 0), kr, ?_⟩
         refine sv_see 95 (.bool false) (see_bool kr hF) ?_
         refine sv_run 5 ?_
         refine sv_callp 101 15 #[(pgV (s5 3 C3_.length) nd3_ nr3_ hd3_ hr3_ (s1 4 OD3_.length) (s1 5 RD3_.length) f13_ nx3_ t13_ br3_ tk3_ (m.length : Int) (C3_.length : Int)), (stw pc (.slice (some ⟨7, 0, none⟩) ((List.replicate n (0 : Int)).length) n) (.slice (some ⟨8, 0, none⟩) ((List.replicate k (0 : Int)).length) k) 0 false false false 0 0 0 0 0 false false 0 false)] (@fits_s C3_ OD3_ RD3_ nd3_ nr3_ hd3_ hr3_ f13_ nx3_ t13_ br3_ tk3_ (m.length : Int) (C3_.length : Int) (⟨pc, 0, 0, 0, 0, 0, 0, 0, false, false, false, false, false, false⟩ : Sx) (List.replicate n (0 : Int)) [] (List.replicate k (0 : Int)) [] false n k hR (by omega) (by omega) hi) [some 3, some 4, some 5, some 7, some 8] kr kr kr (hn_of 0 kr ⟨iiC_b, inC_b, inC_b, bk_flat (tab uC (List.replicate n (0 : Int))) kr (tab_plain uC_pl _) (congrArg (tab uC) (List.append_nil _).symm), bk_flat (tab uC (List.replicate k (0 : Int))) kr (tab_plain uC_pl _) (congrArg (tab uC) (List.append_nil _).symm), ⟨⟩⟩) kr kr ?_
         rintro v9 k9 ⟨rfl, rfl⟩
         refine ⟨rfl, .bool (fitsB nd3_ nr3_ hd3_ hr3_ (List.replicate n (0 : Int)) (List.replicate k (0 : Int)) 0), kr, ?_⟩
         refine sv_see 101 (.bool false) (see_bool kr hF) ?_
         refine sv_run 2 ?_
         refine sv_rd 104 (.int .i64 nd3_) 3 6 1 kr kr kr kr (veq_int _ _) kr ?_
         refine sv_run 1 ?_
         refine sv_see 105 (.bool false) (see_bool kr ((decide_eq_false (by omega)) : (decide ((n : Int) ≥ nd3_)) = false)) ?_
         refine sv_run 22 ?_
         refine sv_end kr ?_
         refine sd_run 8 (sd_see 65 (.int .i64 ((k + 4 : Nat) : Int)) (see_int (x := (IntKind.i64.wrap ((k : Int) + 4))) kr (w64 (by omega) (by omega) (by omega))) (sd_run 2 ?_))
         refine sd_inv R4_ kr (hR4_ _ (20 - (k + 4)) _ e7_ (by omega) ⟨k + 4, rfl, (by omega), rfl⟩ ⟨sub_of kr kr ⟨inC_b, uC_b, jjC_b, iiC_b, inC_b, inC_b, brn, ⟨⟩⟩, te_of kr kr⟩ kr)
        ·skip
         refine sd_drawP kr ?_
         refine svp_go 2 ?_
         refine svp_line ?_
         refine sv_callp 95 15 #[(pgV (s5 3 C3_.length) nd3_ nr3_ hd3_ hr3_ (s1 4 OD3_.length) (s1 5 RD3_.length) f13_ nx3_ t13_ br3_ tk3_ (m.length : Int) (C3_.length : Int)), (stw pc (.slice (some ⟨7, 0, none⟩) ((List.replicate n (0 : Int)).length) n) (.slice (some ⟨8, 0, none⟩) ((List.replicate k (0 : Int)).length) k) 0 false false false 0 0 0 0 0 false false 0 false)] (@fits_s C3_ OD3_ RD3_ nd3_ nr3_ hd3_ hr3_ f13_ nx3_ t13_ br3_ tk3_ (m.length : Int) (C3_.length : Int) (⟨pc, 0, 0, 0, 0, 0, 0, 0, false, false, false, false, false, false⟩ : Sx) (List.replicate n (0 : Int)) [] (List.replicate k (0 : Int)) [] false n k hR (by omega) (by omega) hi) [some 3, some 4, some 5, some 7, some 8] kr kr kr (hn_of 0 kr ⟨iiC_b, inC_b, inC_b, bk_flat (tab uC (List.replicate n (0 : Int))) kr (tab_plain uC_pl _) (congrArg (tab uC) (List.append_nil _).symm), bk_flat (tab uC (List.replicate k (0 : Int))) kr (tab_plain uC_pl _) (congrArg (tab uC) (List.append_nil _).symm), ⟨⟩⟩) kr kr ?_
         rintro v9 k9 ⟨rfl, rfl⟩
         refine ⟨rfl, .bool (fitsB nd3_ nr3_ hd3_ hr3_ (List.replicate n (0 : Int)) (List.replicate k (0 : Int)) 0), kr, ?_⟩
         refine sv_see 95 (.bool false) (see_bool kr hF) ?_
         refine sv_run 5 ?_
         refine sv_callp 101 15 #[(pgV (s5 3 C3_.length) nd3_ nr3_ hd3_ hr3_ (s1 4 OD3_.length) (s1 5 RD3_.length) f13_ nx3_ t13_ br3_ tk3_ (m.length : Int) (C3_.length : Int)), (stw pc (.slice (some ⟨7, 0, none⟩) ((List.replicate n (0 : Int)).length) n) (.slice (some ⟨8, 0, none⟩) ((List.replicate k (0 : Int)).length) k) 0 false false false 0 0 0 0 0 false false 0 false)] (@fits_s C3_ OD3_ RD3_ nd3_ nr3_ hd3_ hr3_ f13_ nx3_ t13_ br3_ tk3_ (m.length : Int) (C3_.length : Int) (⟨pc, 0, 0, 0, 0, 0, 0, 0, false, false, false, false, false, false⟩ : Sx) (List.replicate n (0 : Int)) [] (List.replicate k (0 : Int)) [] false n k hR (by omega) (by omega) hi) [some 3, some 4, some 5, some 7, some 8] kr kr kr (hn_of 0 kr ⟨iiC_b, inC_b, inC_b, bk_flat (tab uC (List.replicate n (0 : Int))) kr (tab_plain uC_pl _) (congrArg (tab uC) (List.append_nil _).symm), bk_flat (tab uC (List.replicate k (0 : Int))) kr (tab_plain uC_pl _) (congrArg (tab uC) (List.append_nil _).symm), ⟨⟩⟩) kr kr ?_
         rintro v9 k9 ⟨rfl, rfl⟩
         refine ⟨rfl, .bool (fitsB nd3_ nr3_ hd3_ hr3_ (List.replicate n (0 : Int)) (List.replicate k (0 : Int)) 0), kr, ?_⟩
         refine sv_see 101 (.bool false) (see_bool kr hF) ?_
         refine sv_run 2 ?_
         refine sv_rd 104 (.int .i64 nd3_) 3 6 1 kr kr kr kr (veq_int _ _) kr ?_
         refine sv_run 1 ?_
         refine sv_see 105 (.bool true) (see_bool kr ((decide_eq_true (by omega)) : (decide ((n : Int) ≥ nd3_)) = true)) ?_
         refine sv_run 5 ?_
         refine sv_see 110 (.int .i64 ((n : Int) + hd3_)) (see_int (x := (IntKind.i64.wrap ((n : Int) + hd3_))) kr (w64 (by omega) (by omega) (by omega))) ?_
         refine sv_run 1 ?_
         refine sv_see 111 (.bool false) (see_bool kr ((decide_eq_false (by omega)) : (decide (((n : Int) + hd3_) ≤ 16)) = false)) ?_
         refine sv_run 16 ?_
         refine sv_end kr ?_
         refine sd_run 8 (sd_see 65 (.int .i64 ((k + 4 : Nat) : Int)) (see_int (x := (IntKind.i64.wrap ((k : Int) + 4))) kr (w64 (by omega) (by omega) (by omega))) (sd_run 2 ?_))
         refine sd_inv R4_ kr (hR4_ _ (20 - (k + 4)) _ e7_ (by omega) ⟨k + 4, rfl, (by omega), rfl⟩ ⟨sub_of kr kr ⟨inC_b, uC_b, jjC_b, iiC_b, inC_b, inC_b, brn, ⟨⟩⟩, te_of kr kr⟩ kr)
        ·skip
         refine sd_drawP kr ?_
         refine svp_go 2 ?_
         refine svp_line ?_
         refine sv_callp 95 15 #[(pgV (s5 3 C3_.length) nd3_ nr3_ hd3_ hr3_ (s1 4 OD3_.length) (s1 5 RD3_.length) f13_ nx3_ t13_ br3_ tk3_ (m.length : Int) (C3_.length : Int)), (stw pc (.slice (some ⟨7, 0, none⟩) ((List.replicate n (0 : Int)).length) n) (.slice (some ⟨8, 0, none⟩) ((List.replicate k (0 : Int)).length) k) 0 false false false 0 0 0 0 0 false false 0 false)] (@fits_s C3_ OD3_ RD3_ nd3_ nr3_ hd3_ hr3_ f13_ nx3_ t13_ br3_ tk3_ (m.length : Int) (C3_.length : Int) (⟨pc, 0, 0, 0, 0, 0, 0, 0, false, false, false, false, false, false⟩ : Sx) (List.replicate n (0 : Int)) [] (List.replicate k (0 : Int)) [] false n k hR (by omega) (by omega) hi) [some 3, some 4, some 5, some 7, some 8] kr kr kr (hn_of 0 kr ⟨iiC_b, inC_b, inC_b, bk_flat (tab uC (List.replicate n (0 : Int))) kr (tab_plain uC_pl _) (congrArg (tab uC) (List.append_nil _).symm), bk_flat (tab uC (List.replicate k (0 : Int))) kr (tab_plain uC_pl _) (congrArg (tab uC) (List.append_nil _).symm), ⟨⟩⟩) kr kr ?_
         rintro v9 k9 ⟨rfl, rfl⟩
         refine ⟨rfl, .bool (fitsB nd3_ nr3_ hd3_ hr3_ (List.replicate n (0 : Int)) (List.replicate k (0 : Int)) 0), kr, ?_⟩
         refine sv_see 95 (.bool false) (see_bool kr hF) ?_
         refine sv_run 5 ?_
         refine sv_callp 101 15 #[(pgV (s5 3 C3_.length) nd3_ nr3_ hd3_ hr3_ (s1 4 OD3_.length) (s1 5 RD3_.length) f13_ nx3_ t13_ br3_ tk3_ (m.length : Int) (C3_.length : Int)), (stw pc (.slice (some ⟨7, 0, none⟩) ((List.replicate n (0 : Int)).length) n) (.slice (some ⟨8, 0, none⟩) ((List.replicate k (0 : Int)).length) k) 0 false false false 0 0 0 0 0 false false 0 false)] (@fits_s C3_ OD3_ RD3_ nd3_ nr3_ hd3_ hr3_ f13_ nx3_ t13_ br3_ tk3_ (m.length : Int) (C3_.length : Int) (⟨pc, 0, 0, 0, 0, 0, 0, 0, false, false, false, false, false, false⟩ : Sx) (List.replicate n (0 : Int)) [] (List.replicate k (0 : Int)) [] false n k hR (by omega) (by omega) hi) [some 3, some 4, some 5, some 7, some 8] kr kr kr (hn_of 0 kr ⟨iiC_b, inC_b, inC_b, bk_flat (tab uC (List.replicate n (0 : Int))) kr (tab_plain uC_pl _) (congrArg (tab uC) (List.append_nil _).symm), bk_flat (tab uC (List.replicate k (0 : Int))) kr (tab_plain uC_pl _) (congrArg (tab uC) (List.append_nil _).symm), ⟨⟩⟩) kr kr ?_
         rintro v9 k9 ⟨rfl, rfl⟩
         refine ⟨rfl, .bool (fitsB nd3_ nr3_ hd3_ hr3_ (List.replicate n (0 : Int)) (List.replicate k (0 : Int)) 0), kr, ?_⟩
         refine sv_see 101 (.bool false) (see_bool kr hF) ?_
         refine sv_run 2 ?_
         refine sv_rd 104 (.int .i64 nd3_) 3 6 1 kr kr kr kr (veq_int _ _) kr ?_
         refine sv_run 1 ?_
         refine sv_see 105 (.bool true) (see_bool kr ((decide_eq_true (by omega)) : (decide ((n : Int) ≥ nd3_)) = true)) ?_
         refine sv_run 5 ?_
         refine sv_see 110 (.int .i64 ((n : Int) + hd3_)) (see_int (x := (IntKind.i64.wrap ((n : Int) + hd3_))) kr (w64 (by omega) (by omega) (by omega))) ?_
         refine sv_run 1 ?_
         refine sv_see 111 (.bool true) (see_bool kr ((decide_eq_true (by omega)) : (decide (((n : Int) + hd3_) ≤ 16)) = true)) ?_
         refine sv_run 6 ?_
         refine sv_see 117 (.bool false) (see_bool kr ((decide_eq_false (by omega)) : (decide ((k : Int) ≥ nr3_)) = false)) ?_
         refine sv_run 10 ?_
         refine sv_end kr ?_
         refine sd_run 8 (sd_see 65 (.int .i64 ((k + 4 : Nat) : Int)) (see_int (x := (IntKind.i64.wrap ((k : Int) + 4))) kr (w64 (by omega) (by omega) (by omega))) (sd_run 2 ?_))
         refine sd_inv R4_ kr (hR4_ _ (20 - (k + 4)) _ e7_ (by omega) ⟨k + 4, rfl, (by omega), rfl⟩ ⟨sub_of kr kr ⟨inC_b, uC_b, jjC_b, iiC_b, inC_b, inC_b, brn, ⟨⟩⟩, te_of kr kr⟩ kr)
        ·skip
         refine sd_drawP kr ?_
         refine svp_go 2 ?_
         refine svp_line ?_
         refine sv_callp 95 15 #[(pgV (s5 3 C3_.length) nd3_ nr3_ hd3_ hr3_ (s1 4 OD3_.length) (s1 5 RD3_.length) f13_ nx3_ t13_ br3_ tk3_ (m.length : Int) (C3_.length : Int)), (stw pc (.slice (some ⟨7, 0, none⟩) ((List.replicate n (0 : Int)).length) n) (.slice (some ⟨8, 0, none⟩) ((List.replicate k (0 : Int)).length) k) 0 false false false 0 0 0 0 0 false false 0 false)] (@fits_s C3_ OD3_ RD3_ nd3_ nr3_ hd3_ hr3_ f13_ nx3_ t13_ br3_ tk3_ (m.length : Int) (C3_.length : Int) (⟨pc, 0, 0, 0, 0, 0, 0, 0, false, false, false, false, false, false⟩ : Sx) (List.replicate n (0 : Int)) [] (List.replicate k (0 : Int)) [] false n k hR (by omega) (by omega) hi) [some 3, some 4, some 5, some 7, some 8] kr kr kr (hn_of 0 kr ⟨iiC_b, inC_b, inC_b, bk_flat (tab uC (List.replicate n (0 : Int))) kr (tab_plain uC_pl _) (congrArg (tab uC) (List.append_nil _).symm), bk_flat (tab uC (List.replicate k (0 : Int))) kr (tab_plain uC_pl _) (congrArg (tab uC) (List.append_nil _).symm), ⟨⟩⟩) kr kr ?_
         rintro v9 k9 ⟨rfl, rfl⟩
         refine ⟨rfl, .bool (fitsB nd3_ nr3_ hd3_ hr3_ (List.replicate n (0 : Int)) (List.replicate k (0 : Int)) 0), kr, ?_⟩
         refine sv_see 95 (.bool false) (see_bool kr hF) ?_
         refine sv_run 5 ?_
         refine sv_callp 101 15 #[(pgV (s5 3 C3_.length) nd3_ nr3_ hd3_ hr3_ (s1 4 OD3_.length) (s1 5 RD3_.length) f13_ nx3_ t13_ br3_ tk3_ (m.length : Int) (C3_.length : Int)), (stw pc (.slice (some ⟨7, 0, none⟩) ((List.replicate n (0 : Int)).length) n) (.slice (some ⟨8, 0, none⟩) ((List.replicate k (0 : Int)).length) k) 0 false false false 0 0 0 0 0 false false 0 false)] (@fits_s C3_ OD3_ RD3_ nd3_ nr3_ hd3_ hr3_ f13_ nx3_ t13_ br3_ tk3_ (m.length : Int) (C3_.length : Int) (⟨pc, 0, 0, 0, 0, 0, 0, 0, false, false, false, false, false, false⟩ : Sx) (List.replicate n (0 : Int)) [] (List.replicate k (0 : Int)) [] false n k hR (by omega) (by omega) hi) [some 3, some 4, some 5, some 7, some 8] kr kr kr (hn_of 0 kr ⟨iiC_b, inC_b, inC_b, bk_flat (tab uC (List.replicate n (0 : Int))) kr (tab_plain uC_pl _) (congrArg (tab uC) (List.append_nil _).symm), bk_flat (tab uC (List.replicate k (0 : Int))) kr (tab_plain uC_pl _) (congrArg (tab uC) (List.append_nil _).symm), ⟨⟩⟩) kr kr ?_
         rintro v9 k9 ⟨rfl, rfl⟩
         refine ⟨rfl, .bool (fitsB nd3_ nr3_ hd3_ hr3_ (List.replicate n (0 : Int)) (List.replicate k (0 : Int)) 0), kr, ?_⟩
         refine sv_see 101 (.bool false) (see_bool kr hF) ?_
         refine sv_run 2 ?_
         refine sv_rd 104 (.int .i64 nd3_) 3 6 1 kr kr kr kr (veq_int _ _) kr ?_
         refine sv_run 1 ?_
         refine sv_see 105 (.bool true) (see_bool kr ((decide_eq_true (by omega)) : (decide ((n : Int) ≥ nd3_)) = true)) ?_
         refine sv_run 5 ?_
         refine sv_see 110 (.int .i64 ((n : Int) + hd3_)) (see_int (x := (IntKind.i64.wrap ((n : Int) + hd3_))) kr (w64 (by omega) (by omega) (by omega))) ?_
         refine sv_run 1 ?_
         refine sv_see 111 (.bool true) (see_bool kr ((decide_eq_true (by omega)) : (decide (((n : Int) + hd3_) ≤ 16)) = true)) ?_
         refine sv_run 6 ?_
         refine sv_see 117 (.bool true) (see_bool kr ((decide_eq_true (by omega)) : (decide ((k : Int) ≥ nr3_)) = true)) ?_
         refine sv_run 6 ?_
         refine sv_see 123 (.int .i64 ((k : Int) + hr3_)) (see_int (x := (IntKind.i64.wrap ((k : Int) + hr3_))) kr (w64 (by omega) (by omega) (by omega))) ?_
         refine sv_run 1 ?_
         refine sv_see 124 (.bool false) (see_bool kr ((decide_eq_false (by omega)) : (decide (((k : Int) + hr3_) ≤ 16)) = false)) ?_
         refine sv_run 3 ?_
         refine sv_end kr ?_
         refine sd_run 8 (sd_see 65 (.int .i64 ((k + 4 : Nat) : Int)) (see_int (x := (IntKind.i64.wrap ((k : Int) + 4))) kr (w64 (by omega) (by omega) (by omega))) (sd_run 2 ?_))
         refine sd_inv R4_ kr (hR4_ _ (20 - (k + 4)) _ e7_ (by omega) ⟨k + 4, rfl, (by omega), rfl⟩ ⟨sub_of kr kr ⟨inC_b, uC_b, jjC_b, iiC_b, inC_b, inC_b, brn, ⟨⟩⟩, te_of kr kr⟩ kr)
     ·skip
      obtain ⟨k9, hk9⟩ : ∃ k9, k9 = k := ⟨_, rfl⟩
      refine sd_run 5 (sdF 63 ((k : Int) ≤ 16) (by omega) kr (sd_run 12 (sd_see 61 (.int .i64 ((n + 1 : Nat) : Int)) (see_int (x := (IntKind.i64.wrap ((n : Int) + 1))) kr (w64 (by omega) (by omega) (by omega))) (sd_run 2 ?_))))
      refine sd_inv R3_ kr (hR3_ _ (17 - (n + 1)) _ e7_ (by omega) ⟨n + 1, rfl, (by omega), rfl⟩ ⟨sub_of kr kr ⟨inC_b, uC_b, jjC_b, iiC_b, inC_b, inC_b, brn, ⟨⟩⟩, te_of kr kr⟩ kr)
    ·skip
     obtain rfl : n = 17 := by omega
     refine sd_run 5 (sdF 59 (((17 : Nat) : Int) ≤ 16) (by omega) kr (sd_run 10 (sd_ask 128 (.bool true) 10 #[] kr kr kr rfl (sd_run 4 ?_))))
     refine sdY (.bool true) hX [(inCo xl true), (uCo xv true)] i2_ ⟨inC_b, uC_b, ⟨⟩⟩ ⟨rfl, rfl⟩
end Ls
end Go.Proofs.Ytgpphhdndmdlgaa
