/- Chapter 20: what may be made. -/
import Derived.Test.YtahikechkggbfaaSc
namespace Go.Proofs.Ytahikechkggbfaa
open Go Go.Ev Go.RowKit Lm
set_option linter.unusedVariables false
set_option linter.unusedSimpArgs false
set_option maxRecDepth 100000
namespace Ls
noncomputable def f32b : Code := Try.f32.body.getD .skip
theorem f32_body : Try.f32.body = some f32b := by kernel_rfl
theorem f32_fn : T3.fn 32 = some Try.f32 := by kernel_rfl
set_option maxHeartbeats 1000000 in
theorem irmade_s {c : List II} {od rd : List Int} {nd nr hd hr fl nx tg br tk ct vs : Int} {k : Nat} {x : II} (hx : c[k]? = some x) (hi : 0 ≤ x.2.2.2.2 ∧ x.2.2.2.2 < 4294967296) (hk : c.length < 1000000) (hnd : 0 ≤ nd ∧ nd ≤ 16) (hnr : 0 ≤ nr ∧ nr ≤ 16) : SCall Try.prog T3 32 #[.agg #[.slice (some ⟨0, 0, none⟩) c.length (unk + 5), .int .i64 nd, .int .i64 nr, .int .i64 hd, .int .i64 hr, .slice (some ⟨1, 0, none⟩) od.length (unk + 1), .slice (some ⟨2, 0, none⟩) rd.length (unk + 1), .int .i64 fl, .int .u32 nx, .int .i64 tg, .int .i64 br, .int .u32 tk, .int .i64 ct, .int .i64 vs], .int .i64 ((k : Nat) : Int)] (hq [some ⟨(tab iiC c), 50, false⟩, some ⟨(tab inC od), 3, false⟩, some ⟨(tab inC rd), 3, false⟩]) fun v h => v = .bool (madeB nd nr x ((k : Nat) : Int)) ∧ h = hq [some ⟨(tab iiC c), 50, false⟩, some ⟨(tab inC od), 3, false⟩, some ⟨(tab inC rd), 3, false⟩] := by
  have hkl := (List.getElem?_eq_some_iff.1 hx).1
  refine scall_sd 95 _ 3 (by kernel_rfl) f32_fn f32_body rfl rfl rfl fun X hX => ?_
  refine sd_run 11 ?_
  refine sd_ix 11 (.pointer (some ⟨0, 0 + k * 5, none⟩)) k c.length (by kernel_rfl) (by kernel_rfl) (by kernel_rfl) (by omega) ?_
  refine sd_ld 12 (.agg #[.int .i64 x.1, .int .i64 x.2.1, .int .i64 x.2.2.1, .int .i64 x.2.2.2.1, .int .u32 x.2.2.2.2]) 50 (.pointer (some ⟨0, 0 + k * 5, none⟩)) (by kernel_rfl) (by kernel_rfl) (by kernel_rfl) (ld_row (l := c) (e := 50) (ro := false) (k := k) iiC_len (by kernel_rfl) (by kernel_rfl) (by kernel_rfl) hx) ?_
  refine sd_run 13 ?_
  rcases Bool.eq_false_or_eq_true (((x.2.1 : Int) != ((k : Nat) : Int))) with hc1 | hc1
  · skip
    refine sd_see 16 (.bool true) (see_bool (by kernel_rfl) hc1) ?_
    refine sd_run 8 ?_
    refine sd_end (.bool false) hX (by kernel_rfl) (by kernel_rfl) (by kernel_rfl) (.bool false) (hq [some ⟨(tab iiC c), 50, false⟩, some ⟨(tab inC od), 3, false⟩, some ⟨(tab inC rd), 3, false⟩]) (emOf [some 0, some 1, some 2]) (sub_of (by kernel_rfl) (by kernel_rfl) ⟨bk_flat (tab iiC c) (by kernel_rfl) (tab_plain iiC_pl _) rfl, bk_flat (tab inC od) (by kernel_rfl) (tab_plain inC_pl _) rfl, bk_flat (tab inC rd) (by kernel_rfl) (tab_plain inC_pl _) rfl, True.intro⟩) (rn2_sound _ _ (by kernel_rfl)) ⟨(by congr 1; (try simp at hc1); unfold madeB; simp [hc1] <;> (first | rfl | omega | (intros; omega) | (rw [Bool.eq_iff_iff]; simp; omega) | (intros; simp_all; done) | (simp_all; done))), rfl⟩
  · skip
    refine sd_see 16 (.bool false) (see_bool (by kernel_rfl) hc1) ?_
    refine sd_run 4 ?_
    refine sd_mid 95 (cl (cr (cr (cr f32b)))) [.next (cr (cr (cr (cr f32b))))] (by kernel_rfl) (by kernel_rfl) (by kernel_rfl) (fun s9 => s9 = ⟨tmL [(1, .int .i64 ((k : Nat) : Int)), (2, .pointer (some ⟨3, 0, none⟩)), (4, .bool false), (5, .pointer (some ⟨4, 0, none⟩)), (6, .bool (valB x.2.2.1 ((k : Nat) : Int) && valB x.2.2.2.1 ((k : Nat) : Int)))], hq [some ⟨(tab iiC c), 50, false⟩, some ⟨(tab inC od), 3, false⟩, some ⟨(tab inC rd), 3, false⟩, some ⟨[Value.slice (some ⟨0, 0, none⟩) c.length (unk + 5), .int .i64 nd, .int .i64 nr, .int .i64 hd, .int .i64 hr, .slice (some ⟨1, 0, none⟩) od.length (unk + 1), .slice (some ⟨2, 0, none⟩) rd.length (unk + 1), .int .i64 fl, .int .u32 nx, .int .i64 tg, .int .i64 br, .int .u32 tk, .int .i64 ct, .int .i64 vs], 29, false⟩, some ⟨[Value.int .i64 x.1, .int .i64 x.2.1, .int .i64 x.2.2.1, .int .i64 x.2.2.2.1, .int .u32 x.2.2.2.2], 50, false⟩]⟩) hX ?_ ?_
    · intro R1_ hR1_
      refine sd_run 6 ?_
      rcases Bool.eq_false_or_eq_true ((valB x.2.2.1 ((k : Nat) : Int))) with hc2 | hc2
      · skip
        refine sd_see 21 (.bool true) (see_bool (by kernel_rfl) hc2) ?_
        refine sd_run 7 ?_
        refine sd_see 6 (.bool (valB x.2.2.1 ((k : Nat) : Int) && valB x.2.2.2.1 ((k : Nat) : Int))) (see_bool (x := (valB x.2.2.2.1 ((k : Nat) : Int))) (by kernel_rfl) (by (try simp at hc2); simp [hc2] <;> rfl)) ?_
        refine sd_inv R1_ (by kernel_rfl) (hR1_ _ _ (emOf [some 0, some 1, some 2, some 3, some 4]) rfl ⟨sub_of (by kernel_rfl) (by kernel_rfl) ⟨bk_flat (tab iiC c) (by kernel_rfl) (tab_plain iiC_pl _) rfl, bk_flat (tab inC od) (by kernel_rfl) (tab_plain inC_pl _) rfl, bk_flat (tab inC rd) (by kernel_rfl) (tab_plain inC_pl _) rfl, bk_ren (by kernel_rfl) (by kernel_rfl), bk_ren (by kernel_rfl) (by kernel_rfl), True.intro⟩, te_of (by kernel_rfl) (by kernel_rfl)⟩ (by kernel_rfl))
      · skip
        refine sd_see 21 (.bool false) (see_bool (by kernel_rfl) hc2) ?_
        refine sd_run 7 ?_
        refine sd_see 6 (.bool (valB x.2.2.1 ((k : Nat) : Int) && valB x.2.2.2.1 ((k : Nat) : Int))) (see_bool (x := false) (by kernel_rfl) (by (try simp at hc2); simp [hc2] <;> rfl)) ?_
        refine sd_inv R1_ (by kernel_rfl) (hR1_ _ _ (emOf [some 0, some 1, some 2, some 3, some 4]) rfl ⟨sub_of (by kernel_rfl) (by kernel_rfl) ⟨bk_flat (tab iiC c) (by kernel_rfl) (tab_plain iiC_pl _) rfl, bk_flat (tab inC od) (by kernel_rfl) (tab_plain inC_pl _) rfl, bk_flat (tab inC rd) (by kernel_rfl) (tab_plain inC_pl _) rfl, bk_ren (by kernel_rfl) (by kernel_rfl), bk_ren (by kernel_rfl) (by kernel_rfl), True.intro⟩, te_of (by kernel_rfl) (by kernel_rfl)⟩ (by kernel_rfl))
    · rintro s9 rfl
      refine sd_run 2 ?_
      refine sd_mid 95 (cl (cr (cr (cr (cr f32b))))) [.next (cr (cr (cr (cr (cr f32b)))))] (by kernel_rfl) (by kernel_rfl) (by kernel_rfl) (fun s9 => s9 = ⟨tmL [(2, .pointer (some ⟨3, 0, none⟩)), (4, .bool false), (5, .pointer (some ⟨4, 0, none⟩)), (6, .bool (valB x.2.2.1 ((k : Nat) : Int) && valB x.2.2.2.1 ((k : Nat) : Int))), (7, .bool (decide (x.2.2.1 = 0) && decide (x.2.2.2.1 = 0)))], hq [some ⟨(tab iiC c), 50, false⟩, some ⟨(tab inC od), 3, false⟩, some ⟨(tab inC rd), 3, false⟩, some ⟨[Value.slice (some ⟨0, 0, none⟩) c.length (unk + 5), .int .i64 nd, .int .i64 nr, .int .i64 hd, .int .i64 hr, .slice (some ⟨1, 0, none⟩) od.length (unk + 1), .slice (some ⟨2, 0, none⟩) rd.length (unk + 1), .int .i64 fl, .int .u32 nx, .int .i64 tg, .int .i64 br, .int .u32 tk, .int .i64 ct, .int .i64 vs], 29, false⟩, some ⟨[Value.int .i64 x.1, .int .i64 x.2.1, .int .i64 x.2.2.1, .int .i64 x.2.2.2.1, .int .u32 x.2.2.2.2], 50, false⟩]⟩) hX ?_ ?_
      · intro R2_ hR2_
        refine sd_run 5 ?_
        rcases Bool.eq_false_or_eq_true (((x.2.2.1 : Int) == 0)) with hc3 | hc3
        · skip
          refine sd_see 30 (.bool true) (see_bool (by kernel_rfl) hc3) ?_
          refine sd_run 6 ?_
          refine sd_see 7 (.bool (decide (x.2.2.1 = 0) && decide (x.2.2.2.1 = 0))) (see_bool (x := ((x.2.2.2.1 : Int) == 0)) (by kernel_rfl) (by (try simp at hc3); simp [hc3] <;> rfl)) ?_
          refine sd_inv R2_ (by kernel_rfl) (hR2_ _ _ (emOf [some 0, some 1, some 2, some 3, some 4]) rfl ⟨sub_of (by kernel_rfl) (by kernel_rfl) ⟨bk_flat (tab iiC c) (by kernel_rfl) (tab_plain iiC_pl _) rfl, bk_flat (tab inC od) (by kernel_rfl) (tab_plain inC_pl _) rfl, bk_flat (tab inC rd) (by kernel_rfl) (tab_plain inC_pl _) rfl, bk_ren (by kernel_rfl) (by kernel_rfl), bk_ren (by kernel_rfl) (by kernel_rfl), True.intro⟩, te_of (by kernel_rfl) (by kernel_rfl)⟩ (by kernel_rfl))
        · skip
          refine sd_see 30 (.bool false) (see_bool (by kernel_rfl) hc3) ?_
          refine sd_run 6 ?_
          refine sd_see 7 (.bool (decide (x.2.2.1 = 0) && decide (x.2.2.2.1 = 0))) (see_bool (x := false) (by kernel_rfl) (by (try simp at hc3); simp [hc3] <;> rfl)) ?_
          refine sd_inv R2_ (by kernel_rfl) (hR2_ _ _ (emOf [some 0, some 1, some 2, some 3, some 4]) rfl ⟨sub_of (by kernel_rfl) (by kernel_rfl) ⟨bk_flat (tab iiC c) (by kernel_rfl) (tab_plain iiC_pl _) rfl, bk_flat (tab inC od) (by kernel_rfl) (tab_plain inC_pl _) rfl, bk_flat (tab inC rd) (by kernel_rfl) (tab_plain inC_pl _) rfl, bk_ren (by kernel_rfl) (by kernel_rfl), bk_ren (by kernel_rfl) (by kernel_rfl), True.intro⟩, te_of (by kernel_rfl) (by kernel_rfl)⟩ (by kernel_rfl))
      · rintro s9 rfl
        refine sd_run 15 ?_
        rcases Bool.eq_false_or_eq_true (((x.1 : Int) == 0)) with hc4 | hc4
        · skip
          refine sd_see 37 (.bool true) (see_bool (by kernel_rfl) hc4) ?_
          refine sd_run 10 ?_
          refine sd_end (.bool (decide (x.2.2.1 = 0) && decide (x.2.2.2.1 = 0))) hX (by kernel_rfl) (by kernel_rfl) (by kernel_rfl) (.bool (decide (x.2.2.1 = 0) && decide (x.2.2.2.1 = 0))) (hq [some ⟨(tab iiC c), 50, false⟩, some ⟨(tab inC od), 3, false⟩, some ⟨(tab inC rd), 3, false⟩]) (emOf [some 0, some 1, some 2]) (sub_of (by kernel_rfl) (by kernel_rfl) ⟨bk_flat (tab iiC c) (by kernel_rfl) (tab_plain iiC_pl _) rfl, bk_flat (tab inC od) (by kernel_rfl) (tab_plain inC_pl _) rfl, bk_flat (tab inC rd) (by kernel_rfl) (tab_plain inC_pl _) rfl, True.intro⟩) (rn2_sound _ _ (by kernel_rfl)) ⟨(by congr 1; (try simp at hc1 hc4); unfold madeB; simp [hc1, hc4] <;> (first | rfl | omega | (intros; omega) | (rw [Bool.eq_iff_iff]; simp; omega) | (intros; simp_all; done) | (simp_all; done))), rfl⟩
        · skip
          refine sd_see 37 (.bool false) (see_bool (by kernel_rfl) hc4) ?_
          refine sd_run 7 ?_
          rcases Bool.eq_false_or_eq_true (((x.1 : Int) == 1)) with hc5 | hc5
          · skip
            refine sd_see 40 (.bool true) (see_bool (by kernel_rfl) hc5) ?_
            refine sd_run 5 ?_
            rcases Bool.eq_false_or_eq_true ((decide (x.2.2.1 = 0) && decide (x.2.2.2.1 = 0))) with hc6 | hc6
            · skip
              refine sd_see 43 (.bool true) (see_bool (by kernel_rfl) hc6) ?_
              refine sd_run 3 ?_
              refine sd_see 46 (.int .u64 x.2.2.2.2) (see_int (x := IntKind.u64.wrap x.2.2.2.2) (by kernel_rfl) (wu64 rfl (by omega) (by omega))) ?_
              refine sd_run 3 ?_
              refine sd_see 49 (.int .u64 nd) (see_int (x := IntKind.u64.wrap nd) (by kernel_rfl) (wu64 rfl (by omega) (by omega))) ?_
              refine sd_run 8 ?_
              refine sd_end (.bool (decide ((x.2.2.2.2 : Int) < nd))) hX (by kernel_rfl) (by kernel_rfl) (by kernel_rfl) (.bool (decide ((x.2.2.2.2 : Int) < nd))) (hq [some ⟨(tab iiC c), 50, false⟩, some ⟨(tab inC od), 3, false⟩, some ⟨(tab inC rd), 3, false⟩]) (emOf [some 0, some 1, some 2]) (sub_of (by kernel_rfl) (by kernel_rfl) ⟨bk_flat (tab iiC c) (by kernel_rfl) (tab_plain iiC_pl _) rfl, bk_flat (tab inC od) (by kernel_rfl) (tab_plain inC_pl _) rfl, bk_flat (tab inC rd) (by kernel_rfl) (tab_plain inC_pl _) rfl, True.intro⟩) (rn2_sound _ _ (by kernel_rfl)) ⟨(by congr 1; (try simp at hc1 hc4 hc5 hc6); unfold madeB; simp [hc1, hc4, hc5, hc6] <;> (first | rfl | omega | (intros; omega) | (rw [Bool.eq_iff_iff]; simp; omega) | (intros; simp_all; done) | (simp_all; done))), rfl⟩
            · skip
              refine sd_see 43 (.bool false) (see_bool (by kernel_rfl) hc6) ?_
              refine sd_run 14 ?_
              refine sd_end (.bool false) hX (by kernel_rfl) (by kernel_rfl) (by kernel_rfl) (.bool false) (hq [some ⟨(tab iiC c), 50, false⟩, some ⟨(tab inC od), 3, false⟩, some ⟨(tab inC rd), 3, false⟩]) (emOf [some 0, some 1, some 2]) (sub_of (by kernel_rfl) (by kernel_rfl) ⟨bk_flat (tab iiC c) (by kernel_rfl) (tab_plain iiC_pl _) rfl, bk_flat (tab inC od) (by kernel_rfl) (tab_plain inC_pl _) rfl, bk_flat (tab inC rd) (by kernel_rfl) (tab_plain inC_pl _) rfl, True.intro⟩) (rn2_sound _ _ (by kernel_rfl)) ⟨(by congr 1; (try simp at hc1 hc4 hc5 hc6); unfold madeB; simp [hc1, hc4, hc5, hc6] <;> (first | rfl | omega | (intros; omega) | (rw [Bool.eq_iff_iff]; simp; omega) | (intros; simp_all; done) | (simp_all; done))), rfl⟩
          · skip
            refine sd_see 40 (.bool false) (see_bool (by kernel_rfl) hc5) ?_
            refine sd_run 7 ?_
            rcases Bool.eq_false_or_eq_true (((x.1 : Int) == 2)) with hc7 | hc7
            · skip
              refine sd_see 52 (.bool true) (see_bool (by kernel_rfl) hc7) ?_
              refine sd_run 5 ?_
              rcases Bool.eq_false_or_eq_true ((decide (x.2.2.1 = 0) && decide (x.2.2.2.1 = 0))) with hc8 | hc8
              · skip
                refine sd_see 55 (.bool true) (see_bool (by kernel_rfl) hc8) ?_
                refine sd_run 3 ?_
                refine sd_see 58 (.int .u64 x.2.2.2.2) (see_int (x := IntKind.u64.wrap x.2.2.2.2) (by kernel_rfl) (wu64 rfl (by omega) (by omega))) ?_
                refine sd_run 3 ?_
                refine sd_see 61 (.int .u64 nr) (see_int (x := IntKind.u64.wrap nr) (by kernel_rfl) (wu64 rfl (by omega) (by omega))) ?_
                refine sd_run 8 ?_
                refine sd_end (.bool (decide ((x.2.2.2.2 : Int) < nr))) hX (by kernel_rfl) (by kernel_rfl) (by kernel_rfl) (.bool (decide ((x.2.2.2.2 : Int) < nr))) (hq [some ⟨(tab iiC c), 50, false⟩, some ⟨(tab inC od), 3, false⟩, some ⟨(tab inC rd), 3, false⟩]) (emOf [some 0, some 1, some 2]) (sub_of (by kernel_rfl) (by kernel_rfl) ⟨bk_flat (tab iiC c) (by kernel_rfl) (tab_plain iiC_pl _) rfl, bk_flat (tab inC od) (by kernel_rfl) (tab_plain inC_pl _) rfl, bk_flat (tab inC rd) (by kernel_rfl) (tab_plain inC_pl _) rfl, True.intro⟩) (rn2_sound _ _ (by kernel_rfl)) ⟨(by congr 1; (try simp at hc1 hc4 hc5 hc7 hc8); unfold madeB; simp [hc1, hc4, hc5, hc7, hc8] <;> (first | rfl | omega | (intros; omega) | (rw [Bool.eq_iff_iff]; simp; omega) | (intros; simp_all; done) | (simp_all; done))), rfl⟩
              · skip
                refine sd_see 55 (.bool false) (see_bool (by kernel_rfl) hc8) ?_
                refine sd_run 14 ?_
                refine sd_end (.bool false) hX (by kernel_rfl) (by kernel_rfl) (by kernel_rfl) (.bool false) (hq [some ⟨(tab iiC c), 50, false⟩, some ⟨(tab inC od), 3, false⟩, some ⟨(tab inC rd), 3, false⟩]) (emOf [some 0, some 1, some 2]) (sub_of (by kernel_rfl) (by kernel_rfl) ⟨bk_flat (tab iiC c) (by kernel_rfl) (tab_plain iiC_pl _) rfl, bk_flat (tab inC od) (by kernel_rfl) (tab_plain inC_pl _) rfl, bk_flat (tab inC rd) (by kernel_rfl) (tab_plain inC_pl _) rfl, True.intro⟩) (rn2_sound _ _ (by kernel_rfl)) ⟨(by congr 1; (try simp at hc1 hc4 hc5 hc7 hc8); unfold madeB; simp [hc1, hc4, hc5, hc7, hc8] <;> (first | rfl | omega | (intros; omega) | (rw [Bool.eq_iff_iff]; simp; omega) | (intros; simp_all; done) | (simp_all; done))), rfl⟩
            · skip
              refine sd_see 52 (.bool false) (see_bool (by kernel_rfl) hc7) ?_
              refine sd_run 7 ?_
              rcases Bool.eq_false_or_eq_true (((x.1 : Int) == 3)) with hc9 | hc9
              · skip
                refine sd_see 64 (.bool true) (see_bool (by kernel_rfl) hc9) ?_
                refine sd_run 5 ?_
                rcases Bool.eq_false_or_eq_true ((valB x.2.2.1 ((k : Nat) : Int) && valB x.2.2.2.1 ((k : Nat) : Int))) with hc10 | hc10
                · skip
                  refine sd_see 67 (.bool true) (see_bool (by kernel_rfl) hc10) ?_
                  refine sd_run 5 ?_
                  rcases Bool.eq_false_or_eq_true ((decide ((x.2.2.2.2 : Int) ≥ 16))) with hc11 | hc11
                  · skip
                    refine sd_see 72 (.bool true) (see_bool (by kernel_rfl) hc11) ?_
                    refine sd_run 10 ?_
                    refine sd_end (.bool (decide ((x.2.2.2.2 : Int) ≤ 23))) hX (by kernel_rfl) (by kernel_rfl) (by kernel_rfl) (.bool (decide ((x.2.2.2.2 : Int) ≤ 23))) (hq [some ⟨(tab iiC c), 50, false⟩, some ⟨(tab inC od), 3, false⟩, some ⟨(tab inC rd), 3, false⟩]) (emOf [some 0, some 1, some 2]) (sub_of (by kernel_rfl) (by kernel_rfl) ⟨bk_flat (tab iiC c) (by kernel_rfl) (tab_plain iiC_pl _) rfl, bk_flat (tab inC od) (by kernel_rfl) (tab_plain inC_pl _) rfl, bk_flat (tab inC rd) (by kernel_rfl) (tab_plain inC_pl _) rfl, True.intro⟩) (rn2_sound _ _ (by kernel_rfl)) ⟨(by congr 1; (try simp at hc1 hc4 hc5 hc7 hc9 hc10 hc11); unfold madeB; simp [hc1, hc4, hc5, hc7, hc9, hc10, hc11] <;> (first | rfl | omega | (intros; omega) | (rw [Bool.eq_iff_iff]; simp; omega) | (intros; simp_all; done) | (simp_all; done))), rfl⟩
                  · skip
                    refine sd_see 72 (.bool false) (see_bool (by kernel_rfl) hc11) ?_
                    refine sd_run 10 ?_
                    refine sd_end (.bool false) hX (by kernel_rfl) (by kernel_rfl) (by kernel_rfl) (.bool false) (hq [some ⟨(tab iiC c), 50, false⟩, some ⟨(tab inC od), 3, false⟩, some ⟨(tab inC rd), 3, false⟩]) (emOf [some 0, some 1, some 2]) (sub_of (by kernel_rfl) (by kernel_rfl) ⟨bk_flat (tab iiC c) (by kernel_rfl) (tab_plain iiC_pl _) rfl, bk_flat (tab inC od) (by kernel_rfl) (tab_plain inC_pl _) rfl, bk_flat (tab inC rd) (by kernel_rfl) (tab_plain inC_pl _) rfl, True.intro⟩) (rn2_sound _ _ (by kernel_rfl)) ⟨(by congr 1; (try simp at hc1 hc4 hc5 hc7 hc9 hc10 hc11); unfold madeB; simp [hc1, hc4, hc5, hc7, hc9, hc10, hc11] <;> (first | rfl | omega | (intros; omega) | (rw [Bool.eq_iff_iff]; simp; omega) | (intros; simp_all; done) | (simp_all; done))), rfl⟩
                · skip
                  refine sd_see 67 (.bool false) (see_bool (by kernel_rfl) hc10) ?_
                  refine sd_run 15 ?_
                  refine sd_end (.bool false) hX (by kernel_rfl) (by kernel_rfl) (by kernel_rfl) (.bool false) (hq [some ⟨(tab iiC c), 50, false⟩, some ⟨(tab inC od), 3, false⟩, some ⟨(tab inC rd), 3, false⟩]) (emOf [some 0, some 1, some 2]) (sub_of (by kernel_rfl) (by kernel_rfl) ⟨bk_flat (tab iiC c) (by kernel_rfl) (tab_plain iiC_pl _) rfl, bk_flat (tab inC od) (by kernel_rfl) (tab_plain inC_pl _) rfl, bk_flat (tab inC rd) (by kernel_rfl) (tab_plain inC_pl _) rfl, True.intro⟩) (rn2_sound _ _ (by kernel_rfl)) ⟨(by congr 1; (try simp at hc1 hc4 hc5 hc7 hc9 hc10); unfold madeB; simp [hc1, hc4, hc5, hc7, hc9, hc10] <;> (first | rfl | omega | (intros; omega) | (rw [Bool.eq_iff_iff]; simp; omega) | (intros; simp_all; done) | (simp_all; done))), rfl⟩
              · skip
                refine sd_see 64 (.bool false) (see_bool (by kernel_rfl) hc9) ?_
                refine sd_run 7 ?_
                rcases Bool.eq_false_or_eq_true (((x.1 : Int) == 4)) with hc12 | hc12
                · skip
                  refine sd_see 77 (.bool true) (see_bool (by kernel_rfl) hc12) ?_
                  refine sd_run 5 ?_
                  rcases Bool.eq_false_or_eq_true ((valB x.2.2.1 ((k : Nat) : Int) && valB x.2.2.2.1 ((k : Nat) : Int))) with hc13 | hc13
                  · skip
                    refine sd_see 80 (.bool true) (see_bool (by kernel_rfl) hc13) ?_
                    refine sd_run 4 ?_
                    rcases Bool.eq_false_or_eq_true ((decide ((x.2.2.2.2 : Int) ≥ 16))) with hc14 | hc14
                    · skip
                      refine sd_see 84 (.bool true) (see_bool (by kernel_rfl) hc14) ?_
                      refine sd_run 5 ?_
                      rcases Bool.eq_false_or_eq_true ((decide ((x.2.2.2.2 : Int) ≤ 23))) with hc15 | hc15
                      · skip
                        refine sd_see 89 (.bool true) (see_bool (by kernel_rfl) hc15) ?_
                        refine sd_run 11 ?_
                        refine sd_end (.bool true) hX (by kernel_rfl) (by kernel_rfl) (by kernel_rfl) (.bool true) (hq [some ⟨(tab iiC c), 50, false⟩, some ⟨(tab inC od), 3, false⟩, some ⟨(tab inC rd), 3, false⟩]) (emOf [some 0, some 1, some 2]) (sub_of (by kernel_rfl) (by kernel_rfl) ⟨bk_flat (tab iiC c) (by kernel_rfl) (tab_plain iiC_pl _) rfl, bk_flat (tab inC od) (by kernel_rfl) (tab_plain inC_pl _) rfl, bk_flat (tab inC rd) (by kernel_rfl) (tab_plain inC_pl _) rfl, True.intro⟩) (rn2_sound _ _ (by kernel_rfl)) ⟨(by congr 1; (try simp at hc1 hc4 hc5 hc7 hc9 hc12 hc13 hc14 hc15); unfold madeB; simp [hc1, hc4, hc5, hc7, hc9, hc12, hc13, hc14, hc15] <;> (first | rfl | omega | (intros; omega) | (rw [Bool.eq_iff_iff]; simp; omega) | (intros; simp_all; done) | (simp_all; done))), rfl⟩
                      · skip
                        refine sd_see 89 (.bool false) (see_bool (by kernel_rfl) hc15) ?_
                        refine sd_run 11 ?_
                        refine sd_end (.bool ((x.2.2.2.2 : Int) == 25)) hX (by kernel_rfl) (by kernel_rfl) (by kernel_rfl) (.bool ((x.2.2.2.2 : Int) == 25)) (hq [some ⟨(tab iiC c), 50, false⟩, some ⟨(tab inC od), 3, false⟩, some ⟨(tab inC rd), 3, false⟩]) (emOf [some 0, some 1, some 2]) (sub_of (by kernel_rfl) (by kernel_rfl) ⟨bk_flat (tab iiC c) (by kernel_rfl) (tab_plain iiC_pl _) rfl, bk_flat (tab inC od) (by kernel_rfl) (tab_plain inC_pl _) rfl, bk_flat (tab inC rd) (by kernel_rfl) (tab_plain inC_pl _) rfl, True.intro⟩) (rn2_sound _ _ (by kernel_rfl)) ⟨(by congr 1; (try simp at hc1 hc4 hc5 hc7 hc9 hc12 hc13 hc14 hc15); unfold madeB; simp [hc1, hc4, hc5, hc7, hc9, hc12, hc13, hc14, hc15] <;> (first | rfl | omega | (intros; omega) | (rw [Bool.eq_iff_iff]; simp; omega) | (intros; simp_all; done) | (simp_all; done))), rfl⟩
                    · skip
                      refine sd_see 84 (.bool false) (see_bool (by kernel_rfl) hc14) ?_
                      refine sd_run 16 ?_
                      refine sd_end (.bool ((x.2.2.2.2 : Int) == 25)) hX (by kernel_rfl) (by kernel_rfl) (by kernel_rfl) (.bool ((x.2.2.2.2 : Int) == 25)) (hq [some ⟨(tab iiC c), 50, false⟩, some ⟨(tab inC od), 3, false⟩, some ⟨(tab inC rd), 3, false⟩]) (emOf [some 0, some 1, some 2]) (sub_of (by kernel_rfl) (by kernel_rfl) ⟨bk_flat (tab iiC c) (by kernel_rfl) (tab_plain iiC_pl _) rfl, bk_flat (tab inC od) (by kernel_rfl) (tab_plain inC_pl _) rfl, bk_flat (tab inC rd) (by kernel_rfl) (tab_plain inC_pl _) rfl, True.intro⟩) (rn2_sound _ _ (by kernel_rfl)) ⟨(by congr 1; (try simp at hc1 hc4 hc5 hc7 hc9 hc12 hc13 hc14); unfold madeB; simp [hc1, hc4, hc5, hc7, hc9, hc12, hc13, hc14] <;> (first | rfl | omega | (intros; omega) | (rw [Bool.eq_iff_iff]; simp; omega) | (intros; simp_all; done) | (simp_all; done))), rfl⟩
                  · skip
                    refine sd_see 80 (.bool false) (see_bool (by kernel_rfl) hc13) ?_
                    refine sd_run 20 ?_
                    refine sd_end (.bool false) hX (by kernel_rfl) (by kernel_rfl) (by kernel_rfl) (.bool false) (hq [some ⟨(tab iiC c), 50, false⟩, some ⟨(tab inC od), 3, false⟩, some ⟨(tab inC rd), 3, false⟩]) (emOf [some 0, some 1, some 2]) (sub_of (by kernel_rfl) (by kernel_rfl) ⟨bk_flat (tab iiC c) (by kernel_rfl) (tab_plain iiC_pl _) rfl, bk_flat (tab inC od) (by kernel_rfl) (tab_plain inC_pl _) rfl, bk_flat (tab inC rd) (by kernel_rfl) (tab_plain inC_pl _) rfl, True.intro⟩) (rn2_sound _ _ (by kernel_rfl)) ⟨(by congr 1; (try simp at hc1 hc4 hc5 hc7 hc9 hc12 hc13); unfold madeB; simp [hc1, hc4, hc5, hc7, hc9, hc12, hc13] <;> (first | rfl | omega | (intros; omega) | (rw [Bool.eq_iff_iff]; simp; omega) | (intros; simp_all; done) | (simp_all; done))), rfl⟩
                · skip
                  refine sd_see 77 (.bool false) (see_bool (by kernel_rfl) hc12) ?_
                  refine sd_run 10 ?_
                  refine sd_end (.bool false) hX (by kernel_rfl) (by kernel_rfl) (by kernel_rfl) (.bool false) (hq [some ⟨(tab iiC c), 50, false⟩, some ⟨(tab inC od), 3, false⟩, some ⟨(tab inC rd), 3, false⟩]) (emOf [some 0, some 1, some 2]) (sub_of (by kernel_rfl) (by kernel_rfl) ⟨bk_flat (tab iiC c) (by kernel_rfl) (tab_plain iiC_pl _) rfl, bk_flat (tab inC od) (by kernel_rfl) (tab_plain inC_pl _) rfl, bk_flat (tab inC rd) (by kernel_rfl) (tab_plain inC_pl _) rfl, True.intro⟩) (rn2_sound _ _ (by kernel_rfl)) ⟨(by congr 1; (try simp at hc1 hc4 hc5 hc7 hc9 hc12); unfold madeB; simp [hc1, hc4, hc5, hc7, hc9, hc12] <;> (first | rfl | omega | (intros; omega) | (rw [Bool.eq_iff_iff]; simp; omega) | (intros; simp_all; done) | (simp_all; done))), rfl⟩
end Ls
end Go.Proofs.Ytahikechkggbfaa
