/- Chapter 21: AllocNumbers walked. -/
import Derived.Test.YtegjicaoemhhlaaLf
import Derived.Test.YtegjicaoemhhlaaJi
import Derived.Test.YtegjicaoemhhlaaEvo
namespace Go.Proofs.Ytegjicaoemhhlaa
open Go Go.Ev Go.RowKit
set_option linter.unusedVariables false
set_option linter.unusedSimpArgs false
set_option maxRecDepth 100000
namespace Ls
theorem i64_bd {x : Int} (h1 : -9223372036854775808 ≤ x) (h2 : x ≤ 9223372036854775807) : i64B x = true := by
 unfold i64B
 rw [Bool.and_eq_true, decide_eq_true_eq, decide_eq_true_eq]; omega
theorem tm5 (i : Nat) : 0 ≤ Int.tmod (i : Int) 5 ∧ Int.tmod (i : Int) 5 < 5 := by rw [Int.tmod_eq_emod_of_nonneg (by omega)]; omega
theorem i64_nil : ∀ x ∈ ([] : List Int), i64B x = true := fun x hx => by cases hx
theorem i64_app {l : List Int} (h : ∀ x ∈ l, i64B x = true) {x : Int} (hx : i64B x = true) : ∀ y ∈ l ++ [x], i64B y = true := fun y hy => by
 rcases List.mem_append.1 hy with q | q
 ·exact h y q
 ·simp at q; subst q; exact hx
noncomputable def f3b : Code := Try.f3.body.getD .skip
theorem f3_body : Try.f3.body = some f3b := by kernel_rfl
theorem f3_fn : T16.fn 3 = some Try.f3 := by kernel_rfl
set_option maxHeartbeats 4000000 in
theorem allocnumbers_s   : SCall Try.prog T16 3 #[] (hq []) fun v h => v = .bool true ∧ h = hq [] := by
 have he3 : i64B 3 = true := by decide
 have d5_32 : V32 [1, 2, 3, 4, 5] := by intro x hx; simp at hx; omega
 have nil_32 : V32 [] := fun x hx => by cases hx
 refine scall_sd 52 _ 0 kr f3_fn f3_body rfl rfl rfl fun X hX => ?_
 refine sd_run 12 ?_
 refine sd_loop 52 (cl (cl (cr (cl (cr f3b))))) [.blk 0, .next (cr (cr f3b))] kr kr kr (fun m9 s9 => ∃ (n : Nat), m9 = 27 - n ∧ (n ≤ 26) ∧ s9 = ⟨tmL [(1, .int .i64 (n : Int))], hq []⟩) (27 - 0) _ (emOf []) hX ⟨0, rfl, (by omega), rfl⟩ ⟨sub_of kr kr True.intro, te_of kr kr⟩ kr ?_
 rintro m9 s9 ⟨n, rfl, i1_0, rfl⟩ R1_ hR1_
 by_cases hn24 : n < 24
 ·skip
  refine sd_run 5 (sdT 6 ((n : Int) < 24) (by omega) kr (sd_run 21 ?_))
  refine sd_loop 52 (cl (cl (cr (cl (cr (cl (cl (cr (cl (cl (cr (cl (cr f3b))))))))))))) [.blk 2, .next (cr (cr (cl (cl (cr (cl (cl (cr (cl (cr f3b)))))))))), .blk 1, .next (cr (cr (cl (cl (cr (cl (cr f3b))))))), .inv R1_, .blk 0, .next (cr (cr f3b))] kr kr kr (fun m9 s9 => ∃ (i : Nat) (xa : List Int) (xb : List Int) (xd : List Int), m9 = n - i ∧ (i ≤ n) ∧ (xa.length = i) ∧ (xb.length = i) ∧ (xd.length ≤ i) ∧ (∀ x ∈ xa, i64B x = true) ∧ (∀ x ∈ xb, i64B x = true) ∧ (∀ x ∈ xd, i64B x = true) ∧ s9 = ⟨tmL [(1, .int .i64 (n : Int)), (2, .pointer (some ⟨0, 0, none⟩)), (3, .int .i64 (i : Int))], hq [some ⟨[(s1 1 xa.length), (s1 2 xb.length), (s1 3 xd.length), .int .i64 3], 24, false⟩, (inCo xa false), (inCo xb false), (inCo xd false)]⟩) (n - 0) _ (emOf [some 0, none, none, none]) hX ⟨0, [], [], [], rfl, (by omega), rfl, rfl, (by simp), i64_nil, i64_nil, i64_nil, rfl⟩ ⟨sub_of kr kr ⟨brn, rfl, rfl, rfl, ⟨⟩⟩, te_of kr kr⟩ kr ?_
  rintro m9 s9 ⟨i, xa, xb, xd, rfl, i2_0, i2_1, i2_2, i2_3, i2_4, i2_5, i2_6, rfl⟩ R2_ hR2_
  by_cases hin : i < n
  ·skip
   have ht5 := tm5 i
   refine sd_run 6 (sdT 12 ((i : Int) < (n : Int)) (by omega) kr (sd_run 8 (sd_drawR [(8, 6)] kr kr ?_)))
   refine sr_run 5 ?_
   refine sr_see 19 (.int .i64 ((Int.tmod (i : Int) 5) * 4)) (see_int (x := (IntKind.i64.wrap ((Int.tmod (i : Int) 5) * 4))) kr (w64 (by omega) (by omega) (by omega))) ?_
   refine sr_run 1 ?_
   refine sr_prom 8 2 0 0 1 (s1 2 xb.length) kr kr (veq_slice _ _ _) ?_
   refine sr_growq 21 22 22 3 0 7 1 xa.length 1 5 (.slice (some ⟨4, 0, none⟩) 1 1) (tab inC xa) [Value.int .i64 ((Int.tmod (i : Int) 5) * 4)] (tab inC (xa ++ [((Int.tmod (i : Int) 5) * 4)])) kr kr kr kr kr ((tab_len inC_len _).trans (by first | rfl | (simp only [List.length_append, List.length_cons, List.length_nil, List.length_set] at *; done))) kr kr (by decide) kr (by omega) kr (tab_snoc xa ((Int.tmod (i : Int) 5) * 4)) ⟨kr, kr, kr, kr⟩ ?_
   refine sr_see 21 (s1 5 ((xa ++ [((Int.tmod (i : Int) 5) * 4)]).length)) (see_len (n := (xa.length + 1)) kr (by simp)) ?_
   refine sr_run 1 ?_
   refine sr_keep 23 (s1 2 xb.length) (.pointer (some ⟨0, 1, none⟩)) 22 [] kr kr kr kr (veq_slice _ _ _) kr kr kr ?_
   refine sr_run 2 ?_
   refine sr_see 25 (.int .i64 ((i * 3 : Nat) : Int)) (see_int (x := (IntKind.i64.wrap ((i : Int) * 3))) kr (w64 (by omega) (by omega) (by omega))) ?_
   refine sr_run 1 ?_
   refine sr_see 26 (.int .i64 ((i * 3 + 1 : Nat) : Int)) (see_int (x := (IntKind.i64.wrap (((i * 3 : Nat) : Int) + 1))) kr (w64 (by omega) (by omega) (by omega))) ?_
   refine sr_run 1 ?_
   refine sr_grow 28 22 22 3 0 7 2 xb.length 1 7 (.slice (some ⟨6, 0, none⟩) 1 1) (tab inC xb) [Value.int .i64 ((i * 3 + 1 : Nat) : Int)] (tab inC (xb ++ [((i * 3 + 1 : Nat) : Int)])) kr kr kr kr kr ((tab_len inC_len _).trans (by first | rfl | (simp only [List.length_append, List.length_cons, List.length_nil, List.length_set] at *; done))) kr kr (by decide) kr (by omega) kr (tab_snoc xb ((i * 3 + 1 : Nat) : Int)) kr ?_
   refine sr_see 28 (s1 7 ((xb ++ [((i * 3 + 1 : Nat) : Int)]).length)) (see_len (n := (xb.length + 1)) kr (by simp)) ?_
   refine sr_run 4 ?_
   refine sr_end kr ?_
   refine sd_run 8 ?_
   rcases Bool.eq_false_or_eq_true (((Int.tmod (i : Int) 2) : Int) == 0) with hc1 | hc1
   ·skip
    refine sd_see 33 (.bool true) (see_bool kr hc1) (sd_run 6 (sd_grow 38 22 22 3 0 7 3 xd.length 1 9 (.slice (some ⟨8, 0, none⟩) 1 1) (tab inC xd) [Value.int .i64 (i : Int)] (tab inC (xd ++ [(i : Int)])) kr kr kr kr kr ((tab_len inC_len _).trans (by first | rfl | (simp only [List.length_append, List.length_cons, List.length_nil, List.length_set] at *; done))) kr kr (by decide) kr (by omega) kr (tab_snoc xd (i : Int)) (sd_see 38 (s1 9 ((xd ++ [(i : Int)]).length)) (see_len (n := (xd.length + 1)) kr (by simp)) (sd_run 8 (sd_see 14 (.int .i64 ((i + 1 : Nat) : Int)) (see_int (x := (IntKind.i64.wrap ((i : Int) + 1))) kr (w64 (by omega) (by omega) (by omega))) (sd_run 2 ?_))))))
    refine sd_inv R2_ kr (hR2_ _ (n - (i + 1)) _ (emOf [some 0, some 5, some 7, some 9]) (by omega) ⟨i + 1, (xa ++ [((Int.tmod (i : Int) 5) * 4)]), (xb ++ [((i * 3 + 1 : Nat) : Int)]), (xd ++ [(i : Int)]), rfl, (by omega), (by simp; omega), (by simp; omega), (by first | omega | (simp; omega)), (i64_app i2_4 (i64_bd (by omega) (by omega))), (i64_app i2_5 (i64_bd (by omega) (by omega))), (i64_app i2_6 (i64_bd (by omega) (by omega))), rfl⟩ ⟨sub_of kr kr ⟨brn, inC_b, inC_b, inC_b, ⟨⟩⟩, te_of kr kr⟩ kr)
   ·skip
    refine sd_see 33 (.bool false) (see_bool kr hc1) (sd_run 7 (sd_see 14 (.int .i64 ((i + 1 : Nat) : Int)) (see_int (x := (IntKind.i64.wrap ((i : Int) + 1))) kr (w64 (by omega) (by omega) (by omega))) (sd_run 2 ?_)))
    refine sd_inv R2_ kr (hR2_ _ (n - (i + 1)) _ (emOf [some 0, some 5, some 7, some 3]) (by omega) ⟨i + 1, (xa ++ [((Int.tmod (i : Int) 5) * 4)]), (xb ++ [((i * 3 + 1 : Nat) : Int)]), xd, rfl, (by omega), (by simp; omega), (by simp; omega), (by first | omega | (simp; omega)), (i64_app i2_4 (i64_bd (by omega) (by omega))), (i64_app i2_5 (i64_bd (by omega) (by omega))), i2_6, rfl⟩ ⟨sub_of kr kr ⟨brn, inC_b, inC_b, inC_b, ⟨⟩⟩, te_of kr kr⟩ kr)
  ·skip
   obtain rfl : n = i := by omega
   have hA := i2_4
   have hB := i2_5
   have hD := i2_6
   refine sd_run 6 (sdF 12 ((n : Int) < (n : Int)) (by omega) kr (sd_run 14 ?_))
   refine sd_loop 52 (cl (cl (cr (cr (cr (cl (cl (cr (cl (cl (cr (cl (cr f3b))))))))))))) [.blk 4, .blk 1, .next (cr (cr (cl (cl (cr (cl (cr f3b))))))), .inv R1_, .blk 0, .next (cr (cr f3b))] kr kr kr (fun m9 s9 => ∃ (g : Int), m9 = (18 - g).toNat ∧ (-1 ≤ g ∧ g ≤ 18) ∧ s9 = ⟨tmL [(1, .int .i64 (n : Int)), (2, .pointer (some ⟨0, 0, none⟩)), (4, .int .i64 g)], hq [some ⟨[(s1 1 xa.length), (s1 2 xb.length), (s1 3 xd.length), .int .i64 3], 24, false⟩, (inCo xa false), (inCo xb false), (inCo xd false)]⟩) ((18 - (-1)).toNat) _ e4_ hX ⟨(-1), rfl, (by omega), rfl⟩ ⟨sub_of kr kr ⟨brn, inC_b, inC_b, inC_b, ⟨⟩⟩, te_of kr kr⟩ kr ?_
   rintro m9 s9 ⟨g, rfl, i3_0, rfl⟩ R3_ hR3_
   by_cases hg18 : g < 18
   ·skip
    refine sd_run 5 (sdT 41 ((g : Int) < 18) (by omega) kr (sd_run 8 ?_))
    by_cases hreg : 1 ≤ g ∧ g ≤ 16
    ·skip
     obtain ⟨g9, hg9⟩ := Int.eq_ofNat_of_zero_le (show 0 ≤ g by omega)
     have hrk9 : 1 ≤ g9 ∧ g9 ≤ 16 := by omega
     refine sd_run 2 (sdC 45 8 #[.agg #[(s1 1 xa.length), (s1 2 xb.length), (s1 3 xd.length), .int .i64 3]] (@sum_s xa xb xd 3 false hA hB hD he3 (by omega) (by omega) (by omega)) [some 1, some 2, some 3] ⟨inC_b, inC_b, inC_b, ⟨⟩⟩ ?_)
     rintro hn9 v9 k9 ⟨nd11_, fl11_, C1_, OD1_, q2_0, q2_1, q2_2, q2_3, rfl, rfl⟩
     refine mkG (pgV (s5 4 C1_.length) nd11_ 0 6 0 (s1 5 OD1_.length) (.slice none 0 0) fl11_ 0 (-1) 0 0 1 (C1_.length : Int)) [some ⟨[(s1 1 xa.length), (s1 2 xb.length), (s1 3 xd.length), .int .i64 3], 24, false⟩, (inCo xa false), (inCo xb false), (inCo xd false), (iiCo C1_ false), (inCo OD1_ false)] ⟨cvo, cvs 0 hn9, cvs 1 hn9, cvs 2 hn9, iiC_c 3, inC_c 4, ⟨⟩⟩ ?_
     have hlen2 := q2_0.len
     refine sd_run 1 (sd_see 46 (.int .i64 (g9 : Int)) (see_int (x := g) kr hg9) (sd_run 2 (sdCp 49 7 #[(pgV (s5 4 C1_.length) nd11_ 0 6 0 (s1 5 OD1_.length) (.slice none 0 0) fl11_ 0 (-1) 0 0 1 (C1_.length : Int)), .int .i64 (g9 : Int), (stw 0 (.slice (some ⟨6, 0, none⟩) 5 5) (.slice none 0 0) 0 false false false 0 0 0 0 0 false false 0 false)] (@plans_s C1_ OD1_ [] nd11_ (0 : Int) 6 0 fl11_ 0 (-1) 0 0 1 (⟨0, 0, 0, 0, 0, 0, 0, 0, false, false, false, false, false, false⟩ : Sx) ([1, 2, 3, 4, 5]) [] [] [] false 5 (unk + 1) g9 q2_0 (by omega) (by omega) (by first | omega | (simp; done) | (simp; omega)) q2_1 hrk9 d5_32 nil_32 (by decide) (by decide) (by decide) (.inr ⟨by decide, by decide⟩) (.inl rfl)) [some 4, some 5, none, some 6, none] ⟨iiC_b, inC_b, rfl, uC_b, rfl, ⟨⟩⟩ ?_)))
     rintro v9 k9 ⟨rfl, rfl⟩
     refine ⟨rfl, .bool true, kr, ?_⟩
     refine sd_run 10 (sd_see 43 (.int .i64 (g + 1)) (see_int (x := (IntKind.i64.wrap (g + 1))) kr (w64 rfl (by omega) (by omega))) (sd_run 2 ?_))
     refine sd_inv R3_ kr (hR3_ _ ((18 - (g + 1)).toNat) _ e4_ (by omega) ⟨(g + 1), rfl, (by omega), rfl⟩ ⟨sub_of kr kr ⟨brn, inC_b, inC_b, inC_b, ⟨⟩⟩, te_of kr kr⟩ kr)
    ·skip
     have hrg9 : g < 1 ∨ 16 < g := by omega
     refine sd_run 2 (sdC 45 8 #[.agg #[(s1 1 xa.length), (s1 2 xb.length), (s1 3 xd.length), .int .i64 3]] (@sum_s xa xb xd 3 false hA hB hD he3 (by omega) (by omega) (by omega)) [some 1, some 2, some 3] ⟨inC_b, inC_b, inC_b, ⟨⟩⟩ ?_)
     rintro hn9 v9 k9 ⟨nd12_, fl12_, C2_, OD2_, q3_0, q3_1, q3_2, q3_3, rfl, rfl⟩
     refine mkG (pgV (s5 4 C2_.length) nd12_ 0 6 0 (s1 5 OD2_.length) (.slice none 0 0) fl12_ 0 (-1) 0 0 1 (C2_.length : Int)) [some ⟨[(s1 1 xa.length), (s1 2 xb.length), (s1 3 xd.length), .int .i64 3], 24, false⟩, (inCo xa false), (inCo xb false), (inCo xd false), (iiCo C2_ false), (inCo OD2_ false)] ⟨cvo, cvs 0 hn9, cvs 1 hn9, cvs 2 hn9, iiC_c 3, inC_c 4, ⟨⟩⟩ ?_
     have hlen3 := q3_0.len
     refine sd_run 3 (sdCp 49 7 #[(pgV (s5 4 C2_.length) nd12_ 0 6 0 (s1 5 OD2_.length) (.slice none 0 0) fl12_ 0 (-1) 0 0 1 (C2_.length : Int)), .int .i64 g, (stw 0 (.slice (some ⟨6, 0, none⟩) 5 5) (.slice none 0 0) 0 false false false 0 0 0 0 0 false false 0 false)] (@plans_no C2_ OD2_ [] nd12_ (0 : Int) 6 0 fl12_ 0 (-1) 0 0 1 (⟨0, 0, 0, 0, 0, 0, 0, 0, false, false, false, false, false, false⟩ : Sx) ([1, 2, 3, 4, 5]) [] [] [] false 5 (unk + 1) g q3_0 (by omega) (by omega) (by first | omega | (simp; done) | (simp; omega)) q3_1 hrg9) [some 4, some 5, none, some 6, none] ⟨iiC_b, inC_b, rfl, uC_b, rfl, ⟨⟩⟩ ?_)
     rintro v9 k9 ⟨rfl, rfl⟩
     refine ⟨rfl, .bool true, kr, ?_⟩
     refine sd_run 10 (sd_see 43 (.int .i64 (g + 1)) (see_int (x := (IntKind.i64.wrap (g + 1))) kr (w64 rfl (by omega) (by omega))) (sd_run 2 ?_))
     refine sd_inv R3_ kr (hR3_ _ ((18 - (g + 1)).toNat) _ e4_ (by omega) ⟨(g + 1), rfl, (by omega), rfl⟩ ⟨sub_of kr kr ⟨brn, inC_b, inC_b, inC_b, ⟨⟩⟩, te_of kr kr⟩ kr)
   ·skip
    refine sd_run 5 (sdF 41 ((g : Int) < 18) (by omega) kr (sd_run 12 (sd_see 8 (.int .i64 ((n + 3 : Nat) : Int)) (see_int (x := (IntKind.i64.wrap ((n : Int) + 3))) kr (w64 (by omega) (by omega) (by omega))) (sd_run 2 ?_))))
    refine sd_inv R1_ kr (hR1_ _ (27 - (n + 3)) _ (emOf []) (by omega) ⟨n + 3, rfl, (by omega), rfl⟩ ⟨sub_of kr kr True.intro, te_of kr kr⟩ kr)
 ·skip
  obtain ⟨n9, hn9⟩ : ∃ n9, n9 = n := ⟨_, rfl⟩
  refine sd_run 5 (sdF 6 ((n : Int) < 24) (by omega) kr (sd_run 10 (sd_ask 51 (.bool true) 9 #[] kr kr kr rfl (sd_run 4 ?_))))
  refine sdY (.bool true) hX [] [] True.intro ⟨rfl, rfl⟩
end Ls
end Go.Proofs.Ytegjicaoemhhlaa
