/- Chapter 20: the document: which blocks may be. -/
import Derived.Test.YtahikechkggbfaaSs
namespace Go.Proofs.Ytahikechkggbfaa
open Go Go.Ev Go.RowKit
set_option linter.unusedVariables false
set_option linter.unusedSimpArgs false
set_option maxRecDepth 100000
namespace Ls
theorem made_cases {nd nr o dd a b im k : Int} (h : madeB nd nr (o, dd, a, b, im) k = true) : dd = k ∧ ((o = 0 ∧ a = 0 ∧ b = 0) ∨ (o = 1 ∧ a = 0 ∧ b = 0 ∧ im < nd) ∨ (o = 2 ∧ a = 0 ∧ b = 0 ∧ im < nr) ∨ (o = 3 ∧ (0 ≤ a ∧ a < k) ∧ (0 ≤ b ∧ b < k) ∧ 16 ≤ im ∧ im ≤ 23) ∨ (o = 4 ∧ (0 ≤ a ∧ a < k) ∧ (0 ≤ b ∧ b < k) ∧ 16 ≤ im ∧ im ≤ 23) ∨ (o = 4 ∧ (0 ≤ a ∧ a < k) ∧ (0 ≤ b ∧ b < k) ∧ im = 25)) := by
  unfold madeB at h
  simp only [Bool.and_eq_true, decide_eq_true_eq] at h
  obtain ⟨h1, h⟩ := h
  refine ⟨h1, ?_⟩
  by_cases h0 : o = 0
  · rw [if_pos h0] at h; simp at h; omega
  rw [if_neg h0] at h
  by_cases h2 : o = 1
  · rw [if_pos h2] at h; simp at h; omega
  rw [if_neg h2] at h
  by_cases h3 : o = 2
  · rw [if_pos h3] at h; simp at h; omega
  rw [if_neg h3] at h
  by_cases h4 : o = 3
  · rw [if_pos h4] at h; simp [valB] at h; omega
  rw [if_neg h4] at h
  by_cases h5 : o = 4
  · rw [if_pos h5] at h; simp [valB] at h; omega
  rw [if_neg h5] at h
  cases h
noncomputable def f30b : Code := Try.f30.body.getD .skip
theorem f30_body : Try.f30.body = some f30b := by kernel_rfl
theorem f30_fn : T8.fn 30 = some Try.f30 := by kernel_rfl
theorem rr1_s {c : List II} {od rd : List Int} {nd nr hd hr fl nx tg br tk ct vs : Int} {o dd a b im : Int} (hm : madeB nd nr (o, dd, a, b, im) dd = true) (hi : 0 ≤ im ∧ im < 4294967296) (hnd : 0 ≤ nd ∧ nd ≤ 16) (hnr : 0 ≤ nr ∧ nr ≤ 16) : SCall Try.prog T8 30 #[.agg #[.slice (some ⟨0, 0, none⟩) c.length (unk + 5), .int .i64 nd, .int .i64 nr, .int .i64 hd, .int .i64 hr, .slice (some ⟨1, 0, none⟩) od.length (unk + 1), .slice (some ⟨2, 0, none⟩) rd.length (unk + 1), .int .i64 fl, .int .u32 nx, .int .i64 tg, .int .i64 br, .int .u32 tk, .int .i64 ct, .int .i64 vs], .agg #[.int .i64 o, .int .i64 dd, .int .i64 a, .int .i64 b, .int .u32 im]] (hq [some ⟨(tab iiC c), 50, false⟩, some ⟨(tab inC od), 3, false⟩, some ⟨(tab inC rd), 3, false⟩]) fun v h => v = .bool true ∧ h = hq [some ⟨(tab iiC c), 50, false⟩, some ⟨(tab inC od), 3, false⟩, some ⟨(tab inC rd), 3, false⟩] := by
  obtain ⟨_, hcs⟩ := made_cases hm
  rcases hcs with hcs | hcs | hcs | hcs | hcs | hcs
  · skip
    refine scall_sd 107 _ 3 kr f30_fn f30_body rfl rfl rfl fun X hX => ?_
    refine sd_run 12 ?_
    refine sd_see 8 (.bool true) (see_bool kr ((decide_eq_true (by omega)) : ((decide ((a : Int) ≥ 0))) = true)) ?_
    refine sd_run 8 ?_
    rcases Bool.eq_false_or_eq_true ((decide ((a : Int) < dd))) with hc1 | hc1
    · skip
      refine sd_see 16 (.bool true) (see_bool kr hc1) ?_
      refine sd_run 3 ?_
      refine sd_see 19 (.bool true) (see_bool kr ((decide_eq_true (by omega)) : ((decide ((b : Int) ≥ 0))) = true)) ?_
      refine sd_run 22 ?_
      refine sd_see 31 (.bool true) (see_bool kr ((beq_iff_eq.2 (by omega)) : (((o : Int) == 0)) = true)) ?_
      refine sd_run 9 ?_
      refine sd_see 34 (.bool true) (see_bool kr ((beq_iff_eq.2 (by omega)) : (((a : Int) == 0)) = true)) ?_
      refine sd_run 4 ?_
      refine sd_see 38 (.bool true) (see_bool kr ((beq_iff_eq.2 (by omega)) : (((b : Int) == 0)) = true)) ?_
      refine sd_run 7 ?_
      refine sd_end (.bool true) hX kr kr kr (.bool true) (hq [some ⟨(tab iiC c), 50, false⟩, some ⟨(tab inC od), 3, false⟩, some ⟨(tab inC rd), 3, false⟩]) (emOf [some 0, some 1, some 2]) (sub_of kr kr ⟨bk_flat (tab iiC c) kr (tab_plain iiC_pl _) rfl, bk_flat (tab inC od) kr (tab_plain inC_pl _) rfl, bk_flat (tab inC rd) kr (tab_plain inC_pl _) rfl, True.intro⟩) (rn2_sound _ _ kr) ⟨rfl, rfl⟩
    · skip
      refine sd_see 16 (.bool false) (see_bool kr hc1) ?_
      refine sd_run 25 ?_
      refine sd_see 31 (.bool true) (see_bool kr ((beq_iff_eq.2 (by omega)) : (((o : Int) == 0)) = true)) ?_
      refine sd_run 9 ?_
      refine sd_see 34 (.bool true) (see_bool kr ((beq_iff_eq.2 (by omega)) : (((a : Int) == 0)) = true)) ?_
      refine sd_run 4 ?_
      refine sd_see 38 (.bool true) (see_bool kr ((beq_iff_eq.2 (by omega)) : (((b : Int) == 0)) = true)) ?_
      refine sd_run 7 ?_
      refine sd_end (.bool true) hX kr kr kr (.bool true) (hq [some ⟨(tab iiC c), 50, false⟩, some ⟨(tab inC od), 3, false⟩, some ⟨(tab inC rd), 3, false⟩]) (emOf [some 0, some 1, some 2]) (sub_of kr kr ⟨bk_flat (tab iiC c) kr (tab_plain iiC_pl _) rfl, bk_flat (tab inC od) kr (tab_plain inC_pl _) rfl, bk_flat (tab inC rd) kr (tab_plain inC_pl _) rfl, True.intro⟩) (rn2_sound _ _ kr) ⟨rfl, rfl⟩
  · skip
    refine scall_sd 107 _ 3 kr f30_fn f30_body rfl rfl rfl fun X hX => ?_
    refine sd_run 12 ?_
    refine sd_see 8 (.bool true) (see_bool kr ((decide_eq_true (by omega)) : ((decide ((a : Int) ≥ 0))) = true)) ?_
    refine sd_run 8 ?_
    rcases Bool.eq_false_or_eq_true ((decide ((a : Int) < dd))) with hc2 | hc2
    · skip
      refine sd_see 16 (.bool true) (see_bool kr hc2) ?_
      refine sd_run 3 ?_
      refine sd_see 19 (.bool true) (see_bool kr ((decide_eq_true (by omega)) : ((decide ((b : Int) ≥ 0))) = true)) ?_
      refine sd_run 22 ?_
      refine sd_see 31 (.bool false) (see_bool kr ((beq_eq_false_iff_ne.2 (by omega)) : (((o : Int) == 0)) = false)) ?_
      refine sd_run 7 ?_
      refine sd_see 41 (.bool true) (see_bool kr ((beq_iff_eq.2 (by omega)) : (((o : Int) == 1)) = true)) ?_
      refine sd_run 9 ?_
      refine sd_see 44 (.bool true) (see_bool kr ((beq_iff_eq.2 (by omega)) : (((a : Int) == 0)) = true)) ?_
      refine sd_run 4 ?_
      refine sd_see 48 (.bool true) (see_bool kr ((beq_iff_eq.2 (by omega)) : (((b : Int) == 0)) = true)) ?_
      refine sd_run 7 ?_
      refine sd_see 55 (.int .u32 nd) (see_int (x := (IntKind.u32.wrap nd)) kr (wu32 rfl (by omega) (by omega))) ?_
      refine sd_run 1 ?_
      refine sd_see 56 (.bool true) (see_bool kr ((decide_eq_true (by omega)) : ((decide ((im : Int) < nd))) = true)) ?_
      refine sd_run 7 ?_
      refine sd_end (.bool true) hX kr kr kr (.bool true) (hq [some ⟨(tab iiC c), 50, false⟩, some ⟨(tab inC od), 3, false⟩, some ⟨(tab inC rd), 3, false⟩]) (emOf [some 0, some 1, some 2]) (sub_of kr kr ⟨bk_flat (tab iiC c) kr (tab_plain iiC_pl _) rfl, bk_flat (tab inC od) kr (tab_plain inC_pl _) rfl, bk_flat (tab inC rd) kr (tab_plain inC_pl _) rfl, True.intro⟩) (rn2_sound _ _ kr) ⟨rfl, rfl⟩
    · skip
      refine sd_see 16 (.bool false) (see_bool kr hc2) ?_
      refine sd_run 25 ?_
      refine sd_see 31 (.bool false) (see_bool kr ((beq_eq_false_iff_ne.2 (by omega)) : (((o : Int) == 0)) = false)) ?_
      refine sd_run 7 ?_
      refine sd_see 41 (.bool true) (see_bool kr ((beq_iff_eq.2 (by omega)) : (((o : Int) == 1)) = true)) ?_
      refine sd_run 9 ?_
      refine sd_see 44 (.bool true) (see_bool kr ((beq_iff_eq.2 (by omega)) : (((a : Int) == 0)) = true)) ?_
      refine sd_run 4 ?_
      refine sd_see 48 (.bool true) (see_bool kr ((beq_iff_eq.2 (by omega)) : (((b : Int) == 0)) = true)) ?_
      refine sd_run 7 ?_
      refine sd_see 55 (.int .u32 nd) (see_int (x := (IntKind.u32.wrap nd)) kr (wu32 rfl (by omega) (by omega))) ?_
      refine sd_run 1 ?_
      refine sd_see 56 (.bool true) (see_bool kr ((decide_eq_true (by omega)) : ((decide ((im : Int) < nd))) = true)) ?_
      refine sd_run 7 ?_
      refine sd_end (.bool true) hX kr kr kr (.bool true) (hq [some ⟨(tab iiC c), 50, false⟩, some ⟨(tab inC od), 3, false⟩, some ⟨(tab inC rd), 3, false⟩]) (emOf [some 0, some 1, some 2]) (sub_of kr kr ⟨bk_flat (tab iiC c) kr (tab_plain iiC_pl _) rfl, bk_flat (tab inC od) kr (tab_plain inC_pl _) rfl, bk_flat (tab inC rd) kr (tab_plain inC_pl _) rfl, True.intro⟩) (rn2_sound _ _ kr) ⟨rfl, rfl⟩
  · skip
    refine scall_sd 107 _ 3 kr f30_fn f30_body rfl rfl rfl fun X hX => ?_
    refine sd_run 12 ?_
    refine sd_see 8 (.bool true) (see_bool kr ((decide_eq_true (by omega)) : ((decide ((a : Int) ≥ 0))) = true)) ?_
    refine sd_run 8 ?_
    rcases Bool.eq_false_or_eq_true ((decide ((a : Int) < dd))) with hc3 | hc3
    · skip
      refine sd_see 16 (.bool true) (see_bool kr hc3) ?_
      refine sd_run 3 ?_
      refine sd_see 19 (.bool true) (see_bool kr ((decide_eq_true (by omega)) : ((decide ((b : Int) ≥ 0))) = true)) ?_
      refine sd_run 22 ?_
      refine sd_see 31 (.bool false) (see_bool kr ((beq_eq_false_iff_ne.2 (by omega)) : (((o : Int) == 0)) = false)) ?_
      refine sd_run 7 ?_
      refine sd_see 41 (.bool false) (see_bool kr ((beq_eq_false_iff_ne.2 (by omega)) : (((o : Int) == 1)) = false)) ?_
      refine sd_run 7 ?_
      refine sd_see 59 (.bool true) (see_bool kr ((beq_iff_eq.2 (by omega)) : (((o : Int) == 2)) = true)) ?_
      refine sd_run 9 ?_
      refine sd_see 62 (.bool true) (see_bool kr ((beq_iff_eq.2 (by omega)) : (((a : Int) == 0)) = true)) ?_
      refine sd_run 4 ?_
      refine sd_see 66 (.bool true) (see_bool kr ((beq_iff_eq.2 (by omega)) : (((b : Int) == 0)) = true)) ?_
      refine sd_run 7 ?_
      refine sd_see 73 (.int .u32 nr) (see_int (x := (IntKind.u32.wrap nr)) kr (wu32 rfl (by omega) (by omega))) ?_
      refine sd_run 1 ?_
      refine sd_see 74 (.bool true) (see_bool kr ((decide_eq_true (by omega)) : ((decide ((im : Int) < nr))) = true)) ?_
      refine sd_run 7 ?_
      refine sd_end (.bool true) hX kr kr kr (.bool true) (hq [some ⟨(tab iiC c), 50, false⟩, some ⟨(tab inC od), 3, false⟩, some ⟨(tab inC rd), 3, false⟩]) (emOf [some 0, some 1, some 2]) (sub_of kr kr ⟨bk_flat (tab iiC c) kr (tab_plain iiC_pl _) rfl, bk_flat (tab inC od) kr (tab_plain inC_pl _) rfl, bk_flat (tab inC rd) kr (tab_plain inC_pl _) rfl, True.intro⟩) (rn2_sound _ _ kr) ⟨rfl, rfl⟩
    · skip
      refine sd_see 16 (.bool false) (see_bool kr hc3) ?_
      refine sd_run 25 ?_
      refine sd_see 31 (.bool false) (see_bool kr ((beq_eq_false_iff_ne.2 (by omega)) : (((o : Int) == 0)) = false)) ?_
      refine sd_run 7 ?_
      refine sd_see 41 (.bool false) (see_bool kr ((beq_eq_false_iff_ne.2 (by omega)) : (((o : Int) == 1)) = false)) ?_
      refine sd_run 7 ?_
      refine sd_see 59 (.bool true) (see_bool kr ((beq_iff_eq.2 (by omega)) : (((o : Int) == 2)) = true)) ?_
      refine sd_run 9 ?_
      refine sd_see 62 (.bool true) (see_bool kr ((beq_iff_eq.2 (by omega)) : (((a : Int) == 0)) = true)) ?_
      refine sd_run 4 ?_
      refine sd_see 66 (.bool true) (see_bool kr ((beq_iff_eq.2 (by omega)) : (((b : Int) == 0)) = true)) ?_
      refine sd_run 7 ?_
      refine sd_see 73 (.int .u32 nr) (see_int (x := (IntKind.u32.wrap nr)) kr (wu32 rfl (by omega) (by omega))) ?_
      refine sd_run 1 ?_
      refine sd_see 74 (.bool true) (see_bool kr ((decide_eq_true (by omega)) : ((decide ((im : Int) < nr))) = true)) ?_
      refine sd_run 7 ?_
      refine sd_end (.bool true) hX kr kr kr (.bool true) (hq [some ⟨(tab iiC c), 50, false⟩, some ⟨(tab inC od), 3, false⟩, some ⟨(tab inC rd), 3, false⟩]) (emOf [some 0, some 1, some 2]) (sub_of kr kr ⟨bk_flat (tab iiC c) kr (tab_plain iiC_pl _) rfl, bk_flat (tab inC od) kr (tab_plain inC_pl _) rfl, bk_flat (tab inC rd) kr (tab_plain inC_pl _) rfl, True.intro⟩) (rn2_sound _ _ kr) ⟨rfl, rfl⟩
  · skip
    refine scall_sd 107 _ 3 kr f30_fn f30_body rfl rfl rfl fun X hX => ?_
    refine sd_run 12 ?_
    refine sd_see 8 (.bool true) (see_bool kr ((decide_eq_true (by omega)) : ((decide ((a : Int) ≥ 0))) = true)) ?_
    refine sd_run 6 ?_
    refine sd_see 14 (.bool true) (see_bool kr ((decide_eq_true (by omega)) : ((decide ((a : Int) < dd))) = true)) ?_
    refine sd_run 5 ?_
    refine sd_see 19 (.bool true) (see_bool kr ((decide_eq_true (by omega)) : ((decide ((b : Int) ≥ 0))) = true)) ?_
    refine sd_run 7 ?_
    refine sd_see 26 (.bool true) (see_bool kr ((decide_eq_true (by omega)) : ((decide ((b : Int) < dd))) = true)) ?_
    refine sd_run 15 ?_
    refine sd_see 31 (.bool false) (see_bool kr ((beq_eq_false_iff_ne.2 (by omega)) : (((o : Int) == 0)) = false)) ?_
    refine sd_run 7 ?_
    refine sd_see 41 (.bool false) (see_bool kr ((beq_eq_false_iff_ne.2 (by omega)) : (((o : Int) == 1)) = false)) ?_
    refine sd_run 7 ?_
    refine sd_see 59 (.bool false) (see_bool kr ((beq_eq_false_iff_ne.2 (by omega)) : (((o : Int) == 2)) = false)) ?_
    refine sd_run 7 ?_
    refine sd_see 77 (.bool true) (see_bool kr ((beq_iff_eq.2 (by omega)) : (((o : Int) == 3)) = true)) ?_
    refine sd_run 11 ?_
    refine sd_see 82 (.bool true) (see_bool kr ((decide_eq_true (by omega)) : ((decide ((im : Int) ≥ 16))) = true)) ?_
    refine sd_run 5 ?_
    refine sd_see 87 (.bool true) (see_bool kr ((decide_eq_true (by omega)) : ((decide ((im : Int) ≤ 23))) = true)) ?_
    refine sd_run 7 ?_
    refine sd_end (.bool true) hX kr kr kr (.bool true) (hq [some ⟨(tab iiC c), 50, false⟩, some ⟨(tab inC od), 3, false⟩, some ⟨(tab inC rd), 3, false⟩]) (emOf [some 0, some 1, some 2]) (sub_of kr kr ⟨bk_flat (tab iiC c) kr (tab_plain iiC_pl _) rfl, bk_flat (tab inC od) kr (tab_plain inC_pl _) rfl, bk_flat (tab inC rd) kr (tab_plain inC_pl _) rfl, True.intro⟩) (rn2_sound _ _ kr) ⟨rfl, rfl⟩
  · skip
    refine scall_sd 107 _ 3 kr f30_fn f30_body rfl rfl rfl fun X hX => ?_
    refine sd_run 12 ?_
    refine sd_see 8 (.bool true) (see_bool kr ((decide_eq_true (by omega)) : ((decide ((a : Int) ≥ 0))) = true)) ?_
    refine sd_run 6 ?_
    refine sd_see 14 (.bool true) (see_bool kr ((decide_eq_true (by omega)) : ((decide ((a : Int) < dd))) = true)) ?_
    refine sd_run 5 ?_
    refine sd_see 19 (.bool true) (see_bool kr ((decide_eq_true (by omega)) : ((decide ((b : Int) ≥ 0))) = true)) ?_
    refine sd_run 7 ?_
    refine sd_see 26 (.bool true) (see_bool kr ((decide_eq_true (by omega)) : ((decide ((b : Int) < dd))) = true)) ?_
    refine sd_run 15 ?_
    refine sd_see 31 (.bool false) (see_bool kr ((beq_eq_false_iff_ne.2 (by omega)) : (((o : Int) == 0)) = false)) ?_
    refine sd_run 7 ?_
    refine sd_see 41 (.bool false) (see_bool kr ((beq_eq_false_iff_ne.2 (by omega)) : (((o : Int) == 1)) = false)) ?_
    refine sd_run 7 ?_
    refine sd_see 59 (.bool false) (see_bool kr ((beq_eq_false_iff_ne.2 (by omega)) : (((o : Int) == 2)) = false)) ?_
    refine sd_run 7 ?_
    refine sd_see 77 (.bool false) (see_bool kr ((beq_eq_false_iff_ne.2 (by omega)) : (((o : Int) == 3)) = false)) ?_
    refine sd_run 7 ?_
    refine sd_see 90 (.bool true) (see_bool kr ((beq_iff_eq.2 (by omega)) : (((o : Int) == 4)) = true)) ?_
    refine sd_run 11 ?_
    refine sd_see 95 (.bool true) (see_bool kr ((decide_eq_true (by omega)) : ((decide ((im : Int) ≥ 16))) = true)) ?_
    refine sd_run 4 ?_
    refine sd_see 99 (.bool true) (see_bool kr ((decide_eq_true (by omega)) : ((decide ((im : Int) ≤ 23))) = true)) ?_
    refine sd_run 13 ?_
    refine sd_end (.bool true) hX kr kr kr (.bool true) (hq [some ⟨(tab iiC c), 50, false⟩, some ⟨(tab inC od), 3, false⟩, some ⟨(tab inC rd), 3, false⟩]) (emOf [some 0, some 1, some 2]) (sub_of kr kr ⟨bk_flat (tab iiC c) kr (tab_plain iiC_pl _) rfl, bk_flat (tab inC od) kr (tab_plain inC_pl _) rfl, bk_flat (tab inC rd) kr (tab_plain inC_pl _) rfl, True.intro⟩) (rn2_sound _ _ kr) ⟨rfl, rfl⟩
  · skip
    refine scall_sd 107 _ 3 kr f30_fn f30_body rfl rfl rfl fun X hX => ?_
    refine sd_run 12 ?_
    refine sd_see 8 (.bool true) (see_bool kr ((decide_eq_true (by omega)) : ((decide ((a : Int) ≥ 0))) = true)) ?_
    refine sd_run 6 ?_
    refine sd_see 14 (.bool true) (see_bool kr ((decide_eq_true (by omega)) : ((decide ((a : Int) < dd))) = true)) ?_
    refine sd_run 5 ?_
    refine sd_see 19 (.bool true) (see_bool kr ((decide_eq_true (by omega)) : ((decide ((b : Int) ≥ 0))) = true)) ?_
    refine sd_run 7 ?_
    refine sd_see 26 (.bool true) (see_bool kr ((decide_eq_true (by omega)) : ((decide ((b : Int) < dd))) = true)) ?_
    refine sd_run 15 ?_
    refine sd_see 31 (.bool false) (see_bool kr ((beq_eq_false_iff_ne.2 (by omega)) : (((o : Int) == 0)) = false)) ?_
    refine sd_run 7 ?_
    refine sd_see 41 (.bool false) (see_bool kr ((beq_eq_false_iff_ne.2 (by omega)) : (((o : Int) == 1)) = false)) ?_
    refine sd_run 7 ?_
    refine sd_see 59 (.bool false) (see_bool kr ((beq_eq_false_iff_ne.2 (by omega)) : (((o : Int) == 2)) = false)) ?_
    refine sd_run 7 ?_
    refine sd_see 77 (.bool false) (see_bool kr ((beq_eq_false_iff_ne.2 (by omega)) : (((o : Int) == 3)) = false)) ?_
    refine sd_run 7 ?_
    refine sd_see 90 (.bool true) (see_bool kr ((beq_iff_eq.2 (by omega)) : (((o : Int) == 4)) = true)) ?_
    refine sd_run 11 ?_
    refine sd_see 95 (.bool true) (see_bool kr ((decide_eq_true (by omega)) : ((decide ((im : Int) ≥ 16))) = true)) ?_
    refine sd_run 4 ?_
    refine sd_see 99 (.bool false) (see_bool kr ((decide_eq_false (by omega)) : ((decide ((im : Int) ≤ 23))) = false)) ?_
    refine sd_run 5 ?_
    refine sd_see 104 (.bool true) (see_bool kr ((beq_iff_eq.2 (by omega)) : (((im : Int) == 25)) = true)) ?_
    refine sd_run 8 ?_
    refine sd_end (.bool true) hX kr kr kr (.bool true) (hq [some ⟨(tab iiC c), 50, false⟩, some ⟨(tab inC od), 3, false⟩, some ⟨(tab inC rd), 3, false⟩]) (emOf [some 0, some 1, some 2]) (sub_of kr kr ⟨bk_flat (tab iiC c) kr (tab_plain iiC_pl _) rfl, bk_flat (tab inC od) kr (tab_plain inC_pl _) rfl, bk_flat (tab inC rd) kr (tab_plain inC_pl _) rfl, True.intro⟩) (rn2_sound _ _ kr) ⟨rfl, rfl⟩
noncomputable def f18b : Code := Try.f18.body.getD .skip
theorem f18_body : Try.f18.body = some f18b := by kernel_rfl
theorem f18_fn : T8.fn 18 = some Try.f18 := by kernel_rfl
theorem made_dst {nd nr k : Int} {x : II} (h : madeB nd nr x k = true) : x.2.1 = k := by
  unfold madeB at h; simp only [Bool.and_eq_true, decide_eq_true_eq] at h; exact h.1
set_option maxHeartbeats 2000000 in
theorem rright_s {c : List II} {od rd : List Int} {nd nr hd hr fl nx tg br tk ct : Int} (hR : RightP c od rd nd nr hd hr fl tg br ct (c.length : Int)) (hol : od.length < 100000) (hrl : rd.length < 100000) (hi : ∀ x ∈ c, 0 ≤ x.2.2.2.2 ∧ x.2.2.2.2 < 4294967296) : SCall Try.prog T8 18 #[.agg #[.slice (some ⟨0, 0, none⟩) c.length (unk + 5), .int .i64 nd, .int .i64 nr, .int .i64 hd, .int .i64 hr, .slice (some ⟨1, 0, none⟩) od.length (unk + 1), .slice (some ⟨2, 0, none⟩) rd.length (unk + 1), .int .i64 fl, .int .u32 nx, .int .i64 tg, .int .i64 br, .int .u32 tk, .int .i64 ct, .int .i64 ((c.length : Nat) : Int)]] (hq [some ⟨(tab iiC c), 50, false⟩, some ⟨(tab inC od), 3, false⟩, some ⟨(tab inC rd), 3, false⟩]) fun v h => v = .bool true ∧ h = hq [some ⟨(tab iiC c), 50, false⟩, some ⟨(tab inC od), 3, false⟩, some ⟨(tab inC rd), 3, false⟩] := by
  have q1 := hR.len
  have q2 := hR.nd_
  have q3 := hR.nr_
  have q4 := hR.hd_
  have q5 := hR.hr_
  have q6 := hR.ct_
  have q7 : fl = -1 ∨ (0 ≤ fl ∧ fl < ((c.length : Nat) : Int)) := hR.fl_.imp id valB_iff.1
  have q8 : tg = -1 ∨ (0 ≤ tg ∧ tg < ((c.length : Nat) : Int)) := hR.tg_.imp id valB_iff.1
  rcases hR.br_ with q9 | q9
  · skip
    refine scall_sd 145 _ 3 kr f18_fn f18_body rfl rfl rfl fun X hX => ?_
    refine sd_run 21 ?_
    refine sd_see 16 (.bool false) (see_bool kr ((bne_eq_false_iff_eq.2 (by omega)) : ((((c.length : Nat) : Int) != ((c.length : Nat) : Int))) = false)) ?_
    refine sd_run 3 ?_
    refine sd_see 19 (.bool false) (see_bool kr ((decide_eq_false (by omega)) : ((decide (((c.length : Nat) : Int) > 64))) = false)) ?_
    refine sd_run 5 ?_
    refine sd_see 24 (.bool false) (see_bool kr ((decide_eq_false (by omega)) : ((decide ((ct : Int) < 1))) = false)) ?_
    refine sd_run 5 ?_
    refine sd_see 29 (.bool false) (see_bool kr ((decide_eq_false (by omega)) : ((decide ((ct : Int) > 8))) = false)) ?_
    refine sd_run 5 ?_
    refine sd_see 34 (.bool false) (see_bool kr ((bne_eq_false_iff_eq.2 (by omega)) : (((br : Int) != 0)) = false)) ?_
    refine sd_run 61 ?_
    refine sd_see 66 (.bool false) (see_bool kr ((decide_eq_false (by omega)) : ((decide ((nd : Int) < 0))) = false)) ?_
    refine sd_run 3 ?_
    refine sd_see 69 (.bool false) (see_bool kr ((decide_eq_false (by omega)) : ((decide ((nd : Int) > 16))) = false)) ?_
    refine sd_run 35 ?_
    refine sd_see 66 (.bool false) (see_bool kr ((decide_eq_false (by omega)) : ((decide ((nr : Int) < 0))) = false)) ?_
    refine sd_run 3 ?_
    refine sd_see 69 (.bool false) (see_bool kr ((decide_eq_false (by omega)) : ((decide ((nr : Int) > 16))) = false)) ?_
    refine sd_run 35 ?_
    refine sd_see 66 (.bool false) (see_bool kr ((decide_eq_false (by omega)) : ((decide ((hd : Int) < 0))) = false)) ?_
    refine sd_run 3 ?_
    refine sd_see 69 (.bool false) (see_bool kr ((decide_eq_false (by omega)) : ((decide ((hd : Int) > 16))) = false)) ?_
    refine sd_run 35 ?_
    refine sd_see 66 (.bool false) (see_bool kr ((decide_eq_false (by omega)) : ((decide ((hr : Int) < 0))) = false)) ?_
    refine sd_run 3 ?_
    refine sd_see 69 (.bool false) (see_bool kr ((decide_eq_false (by omega)) : ((decide ((hr : Int) > 16))) = false)) ?_
    refine sd_run 32 ?_
    refine sd_loop 145 (cl (cl (cr (cl (cr (cr (cr (cr f18b)))))))) [.blk 2, .next (cr (cr (cr (cr (cr f18b)))))] kr kr kr (fun m9 s9 => ∃ (k : Nat), m9 = c.length - k ∧ (k ≤ c.length) ∧ s9 = ⟨tmL [(1, .pointer (some ⟨3, 0, none⟩)), (3, .int .i64 ((c.length : Nat) : Int)), (6, .int .i64 ((k : Nat) : Int))], hq [some ⟨(tab iiC c), 50, false⟩, some ⟨(tab inC od), 3, false⟩, some ⟨(tab inC rd), 3, false⟩, some ⟨[Value.slice (some ⟨0, 0, none⟩) c.length (unk + 5), .int .i64 nd, .int .i64 nr, .int .i64 hd, .int .i64 hr, .slice (some ⟨1, 0, none⟩) od.length (unk + 1), .slice (some ⟨2, 0, none⟩) rd.length (unk + 1), .int .i64 fl, .int .u32 nx, .int .i64 tg, .int .i64 br, .int .u32 tk, .int .i64 ct, .int .i64 ((c.length : Nat) : Int)], 29, false⟩]⟩) (c.length - 0) _ (emOf [some 0, some 1, some 2, some 3]) hX ⟨0, rfl, (by omega), rfl⟩ ⟨sub_of kr kr ⟨bk_flat (tab iiC c) kr (tab_plain iiC_pl _) rfl, bk_flat (tab inC od) kr (tab_plain inC_pl _) rfl, bk_flat (tab inC rd) kr (tab_plain inC_pl _) rfl, bk_ren kr kr, True.intro⟩, te_of kr kr⟩ kr ?_
    rintro m9 s9 ⟨k, rfl, i1_0, rfl⟩ R1_ hR1_
    by_cases hlt : k < c.length
    · skip
      obtain ⟨a1, ha1⟩ : ∃ x_, (c)[k]? = some x_ := ⟨_, List.getElem?_eq_getElem (by omega)⟩
      have ia1 := hi _ (List.mem_of_getElem? ha1)
      have hdst := made_dst (hR.code k a1 ha1)
      refine sd_run 6 ?_
      refine sd_see 74 (.bool true) (see_bool kr ((decide_eq_true (by omega)) : ((decide (((k : Nat) : Int) < ((c.length : Nat) : Int)))) = true)) ?_
      refine sd_run 12 ?_
      refine sd_ix 80 (.pointer (some ⟨0, 0 + k * 5, none⟩)) k c.length kr kr kr (by omega) ?_
      refine sd_run 1 ?_
      refine sd_ld 82 (.int .i64 a1.2.1) 3 (.pointer (some ⟨0, 0 + k * 5 + 1, none⟩)) kr kr kr (ld_cell (l := c) (e := 50) (ro := false) (k := k) (j := 1) iiC_len kr kr kr ha1 rfl) ?_
      refine sd_run 2 ?_
      refine sd_see 84 (.bool false) (see_bool kr ((bne_eq_false_iff_eq.2 hdst) : (((a1.2.1 : Int) != ((k : Nat) : Int))) = false)) ?_
      refine sd_run 5 ?_
      refine sd_ix 90 (.pointer (some ⟨0, 0 + k * 5, none⟩)) k c.length kr kr kr (by omega) ?_
      refine sd_ld 91 (.agg #[.int .i64 a1.1, .int .i64 a1.2.1, .int .i64 a1.2.2.1, .int .i64 a1.2.2.2.1, .int .u32 a1.2.2.2.2]) 50 (.pointer (some ⟨0, 0 + k * 5, none⟩)) kr kr kr (ld_row (l := c) (e := 50) (ro := false) (k := k) iiC_len kr kr kr ha1) ?_
      refine sd_callp 92 30 #[.agg #[.slice (some ⟨0, 0, none⟩) c.length (unk + 5), .int .i64 nd, .int .i64 nr, .int .i64 hd, .int .i64 hr, .slice (some ⟨1, 0, none⟩) od.length (unk + 1), .slice (some ⟨2, 0, none⟩) rd.length (unk + 1), .int .i64 fl, .int .u32 nx, .int .i64 tg, .int .i64 br, .int .u32 tk, .int .i64 ct, .int .i64 ((c.length : Nat) : Int)], .agg #[.int .i64 a1.1, .int .i64 a1.2.1, .int .i64 a1.2.2.1, .int .i64 a1.2.2.2.1, .int .u32 a1.2.2.2.2]] (rr1_s (c := c) (nd := nd) (nr := nr) (hd := hd) (hr := hr) (od := od) (rd := rd) (fl := fl) (nx := nx) (tg := tg) (br := br) (tk := tk) (ct := ct) (vs := ((c.length : Nat) : Int)) (o := a1.1) (dd := a1.2.1) (a := a1.2.2.1) (b := a1.2.2.2.1) (im := a1.2.2.2.2) (by have q := hR.code k a1 ha1; rw [← hdst] at q; exact q) ia1 hR.nd_ hR.nr_) [some 0, some 1, some 2] kr kr kr (hn_of 0 kr ⟨bk_flat (tab iiC c) kr (tab_plain iiC_pl _) rfl, bk_flat (tab inC od) kr (tab_plain inC_pl _) rfl, bk_flat (tab inC rd) kr (tab_plain inC_pl _) rfl, True.intro⟩) kr ?_
      rintro v9 k9 ⟨rfl, rfl⟩
      refine ⟨rfl, .bool true, kr, ?_⟩
      refine sd_run 11 ?_
      refine sd_see 76 (.int .i64 ((k + 1 : Nat) : Int)) (see_int (x := (IntKind.i64.wrap (((k : Nat) : Int) + 1))) kr (w64 (by omega) (by omega) (by omega))) ?_
      refine sd_run 2 ?_
      refine sd_inv R1_ kr (hR1_ _ (c.length - (k + 1)) _ (emOf [some 0, some 1, some 2, some 3]) (by omega) ⟨k + 1, rfl, (by omega), rfl⟩ ⟨sub_of kr kr ⟨bk_flat (tab iiC c) kr (tab_plain iiC_pl _) rfl, bk_flat (tab inC od) kr (tab_plain inC_pl _) rfl, bk_flat (tab inC rd) kr (tab_plain inC_pl _) rfl, bk_ren kr kr, True.intro⟩, te_of kr kr⟩ kr)
    · skip
      obtain rfl : k = c.length := by omega
      refine sd_run 6 ?_
      refine sd_see 74 (.bool false) (see_bool kr ((decide_eq_false (by omega)) : ((decide (((c.length : Nat) : Int) < ((c.length : Nat) : Int)))) = false)) ?_
      refine sd_run 46 ?_
      refine sd_loop 145 (cl (cl (cr (cr (cl (cl (cr (cr (cl (cl (cr (cl (cr (cr (cr (cr (cr f18b))))))))))))))))) [.blk 6, .blk 5, .next (cr (cr (cr (cl (cl (cr (cl (cr (cr (cr (cr (cr f18b)))))))))))), .loop (cl (cl (cr (cl (cr (cr (cr (cr (cr f18b))))))))), .blk 4, .next (cr (cr (cr (cr (cr (cr f18b))))))] kr kr kr (fun m9 s9 => ∃ (j : Nat), m9 = od.length - j ∧ (j ≤ od.length) ∧ s9 = ⟨tmL [(1, .pointer (some ⟨3, 0, none⟩)), (3, .int .i64 ((c.length : Nat) : Int)), (8, .slice (some ⟨1, 0, none⟩) od.length (unk + 1)), (9, .int .i64 ((j : Nat) : Int)), (99, .slice (some ⟨4, 0, none⟩) 2 2), (100, .int .i64 2), (101, .int .i64 0)], hq [some ⟨(tab iiC c), 50, false⟩, some ⟨(tab inC od), 3, false⟩, some ⟨(tab inC rd), 3, false⟩, some ⟨[Value.slice (some ⟨0, 0, none⟩) c.length (unk + 5), .int .i64 nd, .int .i64 nr, .int .i64 hd, .int .i64 hr, .slice (some ⟨1, 0, none⟩) od.length (unk + 1), .slice (some ⟨2, 0, none⟩) rd.length (unk + 1), .int .i64 fl, .int .u32 nx, .int .i64 tg, .int .i64 br, .int .u32 tk, .int .i64 ct, .int .i64 ((c.length : Nat) : Int)], 29, false⟩, some ⟨[Value.slice (some ⟨1, 0, none⟩) od.length (unk + 1), .slice (some ⟨2, 0, none⟩) rd.length (unk + 1)], 22, false⟩]⟩) (od.length - 0) _ (emOf [some 0, some 1, some 2, some 3, some 4]) hX ⟨0, rfl, (by omega), rfl⟩ ⟨sub_of kr kr ⟨bk_flat (tab iiC c) kr (tab_plain iiC_pl _) rfl, bk_flat (tab inC od) kr (tab_plain inC_pl _) rfl, bk_flat (tab inC rd) kr (tab_plain inC_pl _) rfl, bk_ren kr kr, bk_ren kr kr, True.intro⟩, te_of kr kr⟩ kr ?_
      rintro m9 s9 ⟨j, rfl, i2_0, rfl⟩ R2_ hR2_
      by_cases hlt_od : j < od.length
      · skip
        obtain ⟨a2, ha2⟩ : ∃ x_, (od)[j]? = some x_ := ⟨_, List.getElem?_eq_getElem (by omega)⟩
        obtain ⟨qa1, qa2⟩ := valB_iff.1 (hR.od_ j a2 ha2)
        refine sd_run 7 ?_
        refine sd_see 108 (.bool true) (see_bool kr ((decide_eq_true (by omega)) : ((decide (((j : Nat) : Int) < ((od.length : Nat) : Int)))) = true)) ?_
        refine sd_run 11 ?_
        refine sd_ix 113 (.pointer (some ⟨1, 0 + j * 1, none⟩)) j od.length kr kr kr (by omega) ?_
        refine sd_ld 114 (.int .i64 a2) 3 (.pointer (some ⟨1, 0 + j * 1, none⟩)) kr kr kr (ld_cell (l := od) (e := 3) (ro := false) (k := j) (j := 0) inC_len kr kr kr ha2 rfl) ?_
        refine sd_run 1 ?_
        refine sd_see 115 (.bool false) (see_bool kr ((decide_eq_false (by omega)) : ((decide ((a2 : Int) < 0))) = false)) ?_
        refine sd_run 3 ?_
        refine sd_ix 119 (.pointer (some ⟨1, 0 + j * 1, none⟩)) j od.length kr kr kr (by omega) ?_
        refine sd_ld 120 (.int .i64 a2) 3 (.pointer (some ⟨1, 0 + j * 1, none⟩)) kr kr kr (ld_cell (l := od) (e := 3) (ro := false) (k := j) (j := 0) inC_len kr kr kr ha2 rfl) ?_
        refine sd_run 2 ?_
        refine sd_see 122 (.bool false) (see_bool kr ((decide_eq_false (by omega)) : ((decide ((a2 : Int) ≥ ((c.length : Nat) : Int)))) = false)) ?_
        refine sd_run 10 ?_
        refine sd_see 110 (.int .i64 ((j + 1 : Nat) : Int)) (see_int (x := (IntKind.i64.wrap (((j : Nat) : Int) + 1))) kr (w64 (by omega) (by omega) (by omega))) ?_
        refine sd_run 2 ?_
        refine sd_inv R2_ kr (hR2_ _ (od.length - (j + 1)) _ (emOf [some 0, some 1, some 2, some 3, some 4]) (by omega) ⟨j + 1, rfl, (by omega), rfl⟩ ⟨sub_of kr kr ⟨bk_flat (tab iiC c) kr (tab_plain iiC_pl _) rfl, bk_flat (tab inC od) kr (tab_plain inC_pl _) rfl, bk_flat (tab inC rd) kr (tab_plain inC_pl _) rfl, bk_ren kr kr, bk_ren kr kr, True.intro⟩, te_of kr kr⟩ kr)
      · skip
        obtain rfl : j = od.length := by omega
        refine sd_run 7 ?_
        refine sd_see 108 (.bool false) (see_bool kr ((decide_eq_false (by omega)) : ((decide (((od.length : Nat) : Int) < ((od.length : Nat) : Int)))) = false)) ?_
        refine sd_run 39 ?_
        refine sd_loop 145 (cl (cl (cr (cr (cl (cl (cr (cr (cl (cl (cr (cl (cr (cr (cr (cr (cr f18b))))))))))))))))) [.blk 6, .blk 5, .next (cr (cr (cr (cl (cl (cr (cl (cr (cr (cr (cr (cr f18b)))))))))))), .loop (cl (cl (cr (cl (cr (cr (cr (cr (cr f18b))))))))), .blk 4, .next (cr (cr (cr (cr (cr (cr f18b))))))] kr kr kr (fun m9 s9 => ∃ (j : Nat), m9 = rd.length - j ∧ (j ≤ rd.length) ∧ s9 = ⟨tmL [(1, .pointer (some ⟨3, 0, none⟩)), (3, .int .i64 ((c.length : Nat) : Int)), (8, .slice (some ⟨2, 0, none⟩) rd.length (unk + 1)), (9, .int .i64 ((j : Nat) : Int)), (99, .slice (some ⟨4, 0, none⟩) 2 2), (100, .int .i64 2), (101, .int .i64 1)], hq [some ⟨(tab iiC c), 50, false⟩, some ⟨(tab inC od), 3, false⟩, some ⟨(tab inC rd), 3, false⟩, some ⟨[Value.slice (some ⟨0, 0, none⟩) c.length (unk + 5), .int .i64 nd, .int .i64 nr, .int .i64 hd, .int .i64 hr, .slice (some ⟨1, 0, none⟩) od.length (unk + 1), .slice (some ⟨2, 0, none⟩) rd.length (unk + 1), .int .i64 fl, .int .u32 nx, .int .i64 tg, .int .i64 br, .int .u32 tk, .int .i64 ct, .int .i64 ((c.length : Nat) : Int)], 29, false⟩, some ⟨[Value.slice (some ⟨1, 0, none⟩) od.length (unk + 1), .slice (some ⟨2, 0, none⟩) rd.length (unk + 1)], 22, false⟩]⟩) (rd.length - 0) _ (emOf [some 0, some 1, some 2, some 3, some 4]) hX ⟨0, rfl, (by omega), rfl⟩ ⟨sub_of kr kr ⟨bk_flat (tab iiC c) kr (tab_plain iiC_pl _) rfl, bk_flat (tab inC od) kr (tab_plain inC_pl _) rfl, bk_flat (tab inC rd) kr (tab_plain inC_pl _) rfl, bk_ren kr kr, bk_ren kr kr, True.intro⟩, te_of kr kr⟩ kr ?_
        rintro m9 s9 ⟨j, rfl, i3_0, rfl⟩ R3_ hR3_
        by_cases hlt_rd : j < rd.length
        · skip
          obtain ⟨a3, ha3⟩ : ∃ x_, (rd)[j]? = some x_ := ⟨_, List.getElem?_eq_getElem (by omega)⟩
          obtain ⟨qa1, qa2⟩ := valB_iff.1 (hR.rd_ j a3 ha3)
          refine sd_run 7 ?_
          refine sd_see 108 (.bool true) (see_bool kr ((decide_eq_true (by omega)) : ((decide (((j : Nat) : Int) < ((rd.length : Nat) : Int)))) = true)) ?_
          refine sd_run 11 ?_
          refine sd_ix 113 (.pointer (some ⟨2, 0 + j * 1, none⟩)) j rd.length kr kr kr (by omega) ?_
          refine sd_ld 114 (.int .i64 a3) 3 (.pointer (some ⟨2, 0 + j * 1, none⟩)) kr kr kr (ld_cell (l := rd) (e := 3) (ro := false) (k := j) (j := 0) inC_len kr kr kr ha3 rfl) ?_
          refine sd_run 1 ?_
          refine sd_see 115 (.bool false) (see_bool kr ((decide_eq_false (by omega)) : ((decide ((a3 : Int) < 0))) = false)) ?_
          refine sd_run 3 ?_
          refine sd_ix 119 (.pointer (some ⟨2, 0 + j * 1, none⟩)) j rd.length kr kr kr (by omega) ?_
          refine sd_ld 120 (.int .i64 a3) 3 (.pointer (some ⟨2, 0 + j * 1, none⟩)) kr kr kr (ld_cell (l := rd) (e := 3) (ro := false) (k := j) (j := 0) inC_len kr kr kr ha3 rfl) ?_
          refine sd_run 2 ?_
          refine sd_see 122 (.bool false) (see_bool kr ((decide_eq_false (by omega)) : ((decide ((a3 : Int) ≥ ((c.length : Nat) : Int)))) = false)) ?_
          refine sd_run 10 ?_
          refine sd_see 110 (.int .i64 ((j + 1 : Nat) : Int)) (see_int (x := (IntKind.i64.wrap (((j : Nat) : Int) + 1))) kr (w64 (by omega) (by omega) (by omega))) ?_
          refine sd_run 2 ?_
          refine sd_inv R3_ kr (hR3_ _ (rd.length - (j + 1)) _ (emOf [some 0, some 1, some 2, some 3, some 4]) (by omega) ⟨j + 1, rfl, (by omega), rfl⟩ ⟨sub_of kr kr ⟨bk_flat (tab iiC c) kr (tab_plain iiC_pl _) rfl, bk_flat (tab inC od) kr (tab_plain inC_pl _) rfl, bk_flat (tab inC rd) kr (tab_plain inC_pl _) rfl, bk_ren kr kr, bk_ren kr kr, True.intro⟩, te_of kr kr⟩ kr)
        · skip
          obtain rfl : j = rd.length := by omega
          refine sd_run 7 ?_
          refine sd_see 108 (.bool false) (see_bool kr ((decide_eq_false (by omega)) : ((decide (((rd.length : Nat) : Int) < ((rd.length : Nat) : Int)))) = false)) ?_
          refine sd_run 32 ?_
          refine sd_see 127 (.bool true) (see_bool kr ((decide_eq_true (by omega)) : ((decide ((fl : Int) ≥ (-1)))) = true)) ?_
          refine sd_run 5 ?_
          refine sd_see 132 (.bool true) (see_bool kr ((decide_eq_true (by omega)) : ((decide ((fl : Int) < ((c.length : Nat) : Int)))) = true)) ?_
          refine sd_run 5 ?_
          refine sd_see 137 (.bool true) (see_bool kr ((decide_eq_true (by omega)) : ((decide ((tg : Int) ≥ (-1)))) = true)) ?_
          refine sd_run 6 ?_
          refine sd_see 143 (.bool true) (see_bool kr ((decide_eq_true (by omega)) : ((decide ((tg : Int) < ((c.length : Nat) : Int)))) = true)) ?_
          refine sd_run 5 ?_
          refine sd_end (.bool true) hX kr kr kr (.bool true) (hq [some ⟨(tab iiC c), 50, false⟩, some ⟨(tab inC od), 3, false⟩, some ⟨(tab inC rd), 3, false⟩]) (emOf [some 0, some 1, some 2]) (sub_of kr kr ⟨bk_flat (tab iiC c) kr (tab_plain iiC_pl _) rfl, bk_flat (tab inC od) kr (tab_plain inC_pl _) rfl, bk_flat (tab inC rd) kr (tab_plain inC_pl _) rfl, True.intro⟩) (rn2_sound _ _ kr) ⟨rfl, rfl⟩
  · skip
    refine scall_sd 145 _ 3 kr f18_fn f18_body rfl rfl rfl fun X hX => ?_
    refine sd_run 21 ?_
    refine sd_see 16 (.bool false) (see_bool kr ((bne_eq_false_iff_eq.2 (by omega)) : ((((c.length : Nat) : Int) != ((c.length : Nat) : Int))) = false)) ?_
    refine sd_run 3 ?_
    refine sd_see 19 (.bool false) (see_bool kr ((decide_eq_false (by omega)) : ((decide (((c.length : Nat) : Int) > 64))) = false)) ?_
    refine sd_run 5 ?_
    refine sd_see 24 (.bool false) (see_bool kr ((decide_eq_false (by omega)) : ((decide ((ct : Int) < 1))) = false)) ?_
    refine sd_run 5 ?_
    refine sd_see 29 (.bool false) (see_bool kr ((decide_eq_false (by omega)) : ((decide ((ct : Int) > 8))) = false)) ?_
    refine sd_run 5 ?_
    refine sd_see 34 (.bool true) (see_bool kr ((bne_iff_ne.2 (by omega)) : (((br : Int) != 0)) = true)) ?_
    refine sd_run 4 ?_
    refine sd_see 38 (.bool false) (see_bool kr ((decide_eq_false (by omega)) : ((decide ((br : Int) < 33))) = false)) ?_
    refine sd_run 4 ?_
    refine sd_see 42 (.bool false) (see_bool kr ((decide_eq_false (by omega)) : ((decide ((br : Int) > 37))) = false)) ?_
    refine sd_run 5 ?_
    refine sd_see 47 (.bool false) (see_bool kr ((bne_eq_false_iff_eq.2 (by omega)) : (((tg : Int) != (-1))) = false)) ?_
    refine sd_run 48 ?_
    refine sd_see 66 (.bool false) (see_bool kr ((decide_eq_false (by omega)) : ((decide ((nd : Int) < 0))) = false)) ?_
    refine sd_run 3 ?_
    refine sd_see 69 (.bool false) (see_bool kr ((decide_eq_false (by omega)) : ((decide ((nd : Int) > 16))) = false)) ?_
    refine sd_run 35 ?_
    refine sd_see 66 (.bool false) (see_bool kr ((decide_eq_false (by omega)) : ((decide ((nr : Int) < 0))) = false)) ?_
    refine sd_run 3 ?_
    refine sd_see 69 (.bool false) (see_bool kr ((decide_eq_false (by omega)) : ((decide ((nr : Int) > 16))) = false)) ?_
    refine sd_run 35 ?_
    refine sd_see 66 (.bool false) (see_bool kr ((decide_eq_false (by omega)) : ((decide ((hd : Int) < 0))) = false)) ?_
    refine sd_run 3 ?_
    refine sd_see 69 (.bool false) (see_bool kr ((decide_eq_false (by omega)) : ((decide ((hd : Int) > 16))) = false)) ?_
    refine sd_run 35 ?_
    refine sd_see 66 (.bool false) (see_bool kr ((decide_eq_false (by omega)) : ((decide ((hr : Int) < 0))) = false)) ?_
    refine sd_run 3 ?_
    refine sd_see 69 (.bool false) (see_bool kr ((decide_eq_false (by omega)) : ((decide ((hr : Int) > 16))) = false)) ?_
    refine sd_run 32 ?_
    refine sd_loop 145 (cl (cl (cr (cl (cr (cr (cr (cr f18b)))))))) [.blk 2, .next (cr (cr (cr (cr (cr f18b)))))] kr kr kr (fun m9 s9 => ∃ (k : Nat), m9 = c.length - k ∧ (k ≤ c.length) ∧ s9 = ⟨tmL [(1, .pointer (some ⟨3, 0, none⟩)), (3, .int .i64 ((c.length : Nat) : Int)), (6, .int .i64 ((k : Nat) : Int))], hq [some ⟨(tab iiC c), 50, false⟩, some ⟨(tab inC od), 3, false⟩, some ⟨(tab inC rd), 3, false⟩, some ⟨[Value.slice (some ⟨0, 0, none⟩) c.length (unk + 5), .int .i64 nd, .int .i64 nr, .int .i64 hd, .int .i64 hr, .slice (some ⟨1, 0, none⟩) od.length (unk + 1), .slice (some ⟨2, 0, none⟩) rd.length (unk + 1), .int .i64 fl, .int .u32 nx, .int .i64 tg, .int .i64 br, .int .u32 tk, .int .i64 ct, .int .i64 ((c.length : Nat) : Int)], 29, false⟩]⟩) (c.length - 0) _ (emOf [some 0, some 1, some 2, some 3]) hX ⟨0, rfl, (by omega), rfl⟩ ⟨sub_of kr kr ⟨bk_flat (tab iiC c) kr (tab_plain iiC_pl _) rfl, bk_flat (tab inC od) kr (tab_plain inC_pl _) rfl, bk_flat (tab inC rd) kr (tab_plain inC_pl _) rfl, bk_ren kr kr, True.intro⟩, te_of kr kr⟩ kr ?_
    rintro m9 s9 ⟨k, rfl, i4_0, rfl⟩ R4_ hR4_
    by_cases hlt : k < c.length
    · skip
      obtain ⟨a4, ha4⟩ : ∃ x_, (c)[k]? = some x_ := ⟨_, List.getElem?_eq_getElem (by omega)⟩
      have ia4 := hi _ (List.mem_of_getElem? ha4)
      have hdst := made_dst (hR.code k a4 ha4)
      refine sd_run 6 ?_
      refine sd_see 74 (.bool true) (see_bool kr ((decide_eq_true (by omega)) : ((decide (((k : Nat) : Int) < ((c.length : Nat) : Int)))) = true)) ?_
      refine sd_run 12 ?_
      refine sd_ix 80 (.pointer (some ⟨0, 0 + k * 5, none⟩)) k c.length kr kr kr (by omega) ?_
      refine sd_run 1 ?_
      refine sd_ld 82 (.int .i64 a4.2.1) 3 (.pointer (some ⟨0, 0 + k * 5 + 1, none⟩)) kr kr kr (ld_cell (l := c) (e := 50) (ro := false) (k := k) (j := 1) iiC_len kr kr kr ha4 rfl) ?_
      refine sd_run 2 ?_
      refine sd_see 84 (.bool false) (see_bool kr ((bne_eq_false_iff_eq.2 hdst) : (((a4.2.1 : Int) != ((k : Nat) : Int))) = false)) ?_
      refine sd_run 5 ?_
      refine sd_ix 90 (.pointer (some ⟨0, 0 + k * 5, none⟩)) k c.length kr kr kr (by omega) ?_
      refine sd_ld 91 (.agg #[.int .i64 a4.1, .int .i64 a4.2.1, .int .i64 a4.2.2.1, .int .i64 a4.2.2.2.1, .int .u32 a4.2.2.2.2]) 50 (.pointer (some ⟨0, 0 + k * 5, none⟩)) kr kr kr (ld_row (l := c) (e := 50) (ro := false) (k := k) iiC_len kr kr kr ha4) ?_
      refine sd_callp 92 30 #[.agg #[.slice (some ⟨0, 0, none⟩) c.length (unk + 5), .int .i64 nd, .int .i64 nr, .int .i64 hd, .int .i64 hr, .slice (some ⟨1, 0, none⟩) od.length (unk + 1), .slice (some ⟨2, 0, none⟩) rd.length (unk + 1), .int .i64 fl, .int .u32 nx, .int .i64 tg, .int .i64 br, .int .u32 tk, .int .i64 ct, .int .i64 ((c.length : Nat) : Int)], .agg #[.int .i64 a4.1, .int .i64 a4.2.1, .int .i64 a4.2.2.1, .int .i64 a4.2.2.2.1, .int .u32 a4.2.2.2.2]] (rr1_s (c := c) (nd := nd) (nr := nr) (hd := hd) (hr := hr) (od := od) (rd := rd) (fl := fl) (nx := nx) (tg := tg) (br := br) (tk := tk) (ct := ct) (vs := ((c.length : Nat) : Int)) (o := a4.1) (dd := a4.2.1) (a := a4.2.2.1) (b := a4.2.2.2.1) (im := a4.2.2.2.2) (by have q := hR.code k a4 ha4; rw [← hdst] at q; exact q) ia4 hR.nd_ hR.nr_) [some 0, some 1, some 2] kr kr kr (hn_of 0 kr ⟨bk_flat (tab iiC c) kr (tab_plain iiC_pl _) rfl, bk_flat (tab inC od) kr (tab_plain inC_pl _) rfl, bk_flat (tab inC rd) kr (tab_plain inC_pl _) rfl, True.intro⟩) kr ?_
      rintro v9 k9 ⟨rfl, rfl⟩
      refine ⟨rfl, .bool true, kr, ?_⟩
      refine sd_run 11 ?_
      refine sd_see 76 (.int .i64 ((k + 1 : Nat) : Int)) (see_int (x := (IntKind.i64.wrap (((k : Nat) : Int) + 1))) kr (w64 (by omega) (by omega) (by omega))) ?_
      refine sd_run 2 ?_
      refine sd_inv R4_ kr (hR4_ _ (c.length - (k + 1)) _ (emOf [some 0, some 1, some 2, some 3]) (by omega) ⟨k + 1, rfl, (by omega), rfl⟩ ⟨sub_of kr kr ⟨bk_flat (tab iiC c) kr (tab_plain iiC_pl _) rfl, bk_flat (tab inC od) kr (tab_plain inC_pl _) rfl, bk_flat (tab inC rd) kr (tab_plain inC_pl _) rfl, bk_ren kr kr, True.intro⟩, te_of kr kr⟩ kr)
    · skip
      obtain rfl : k = c.length := by omega
      refine sd_run 6 ?_
      refine sd_see 74 (.bool false) (see_bool kr ((decide_eq_false (by omega)) : ((decide (((c.length : Nat) : Int) < ((c.length : Nat) : Int)))) = false)) ?_
      refine sd_run 46 ?_
      refine sd_loop 145 (cl (cl (cr (cr (cl (cl (cr (cr (cl (cl (cr (cl (cr (cr (cr (cr (cr f18b))))))))))))))))) [.blk 6, .blk 5, .next (cr (cr (cr (cl (cl (cr (cl (cr (cr (cr (cr (cr f18b)))))))))))), .loop (cl (cl (cr (cl (cr (cr (cr (cr (cr f18b))))))))), .blk 4, .next (cr (cr (cr (cr (cr (cr f18b))))))] kr kr kr (fun m9 s9 => ∃ (j : Nat), m9 = od.length - j ∧ (j ≤ od.length) ∧ s9 = ⟨tmL [(1, .pointer (some ⟨3, 0, none⟩)), (3, .int .i64 ((c.length : Nat) : Int)), (8, .slice (some ⟨1, 0, none⟩) od.length (unk + 1)), (9, .int .i64 ((j : Nat) : Int)), (99, .slice (some ⟨4, 0, none⟩) 2 2), (100, .int .i64 2), (101, .int .i64 0)], hq [some ⟨(tab iiC c), 50, false⟩, some ⟨(tab inC od), 3, false⟩, some ⟨(tab inC rd), 3, false⟩, some ⟨[Value.slice (some ⟨0, 0, none⟩) c.length (unk + 5), .int .i64 nd, .int .i64 nr, .int .i64 hd, .int .i64 hr, .slice (some ⟨1, 0, none⟩) od.length (unk + 1), .slice (some ⟨2, 0, none⟩) rd.length (unk + 1), .int .i64 fl, .int .u32 nx, .int .i64 tg, .int .i64 br, .int .u32 tk, .int .i64 ct, .int .i64 ((c.length : Nat) : Int)], 29, false⟩, some ⟨[Value.slice (some ⟨1, 0, none⟩) od.length (unk + 1), .slice (some ⟨2, 0, none⟩) rd.length (unk + 1)], 22, false⟩]⟩) (od.length - 0) _ (emOf [some 0, some 1, some 2, some 3, some 4]) hX ⟨0, rfl, (by omega), rfl⟩ ⟨sub_of kr kr ⟨bk_flat (tab iiC c) kr (tab_plain iiC_pl _) rfl, bk_flat (tab inC od) kr (tab_plain inC_pl _) rfl, bk_flat (tab inC rd) kr (tab_plain inC_pl _) rfl, bk_ren kr kr, bk_ren kr kr, True.intro⟩, te_of kr kr⟩ kr ?_
      rintro m9 s9 ⟨j, rfl, i5_0, rfl⟩ R5_ hR5_
      by_cases hlt_od : j < od.length
      · skip
        obtain ⟨a5, ha5⟩ : ∃ x_, (od)[j]? = some x_ := ⟨_, List.getElem?_eq_getElem (by omega)⟩
        obtain ⟨qa1, qa2⟩ := valB_iff.1 (hR.od_ j a5 ha5)
        refine sd_run 7 ?_
        refine sd_see 108 (.bool true) (see_bool kr ((decide_eq_true (by omega)) : ((decide (((j : Nat) : Int) < ((od.length : Nat) : Int)))) = true)) ?_
        refine sd_run 11 ?_
        refine sd_ix 113 (.pointer (some ⟨1, 0 + j * 1, none⟩)) j od.length kr kr kr (by omega) ?_
        refine sd_ld 114 (.int .i64 a5) 3 (.pointer (some ⟨1, 0 + j * 1, none⟩)) kr kr kr (ld_cell (l := od) (e := 3) (ro := false) (k := j) (j := 0) inC_len kr kr kr ha5 rfl) ?_
        refine sd_run 1 ?_
        refine sd_see 115 (.bool false) (see_bool kr ((decide_eq_false (by omega)) : ((decide ((a5 : Int) < 0))) = false)) ?_
        refine sd_run 3 ?_
        refine sd_ix 119 (.pointer (some ⟨1, 0 + j * 1, none⟩)) j od.length kr kr kr (by omega) ?_
        refine sd_ld 120 (.int .i64 a5) 3 (.pointer (some ⟨1, 0 + j * 1, none⟩)) kr kr kr (ld_cell (l := od) (e := 3) (ro := false) (k := j) (j := 0) inC_len kr kr kr ha5 rfl) ?_
        refine sd_run 2 ?_
        refine sd_see 122 (.bool false) (see_bool kr ((decide_eq_false (by omega)) : ((decide ((a5 : Int) ≥ ((c.length : Nat) : Int)))) = false)) ?_
        refine sd_run 10 ?_
        refine sd_see 110 (.int .i64 ((j + 1 : Nat) : Int)) (see_int (x := (IntKind.i64.wrap (((j : Nat) : Int) + 1))) kr (w64 (by omega) (by omega) (by omega))) ?_
        refine sd_run 2 ?_
        refine sd_inv R5_ kr (hR5_ _ (od.length - (j + 1)) _ (emOf [some 0, some 1, some 2, some 3, some 4]) (by omega) ⟨j + 1, rfl, (by omega), rfl⟩ ⟨sub_of kr kr ⟨bk_flat (tab iiC c) kr (tab_plain iiC_pl _) rfl, bk_flat (tab inC od) kr (tab_plain inC_pl _) rfl, bk_flat (tab inC rd) kr (tab_plain inC_pl _) rfl, bk_ren kr kr, bk_ren kr kr, True.intro⟩, te_of kr kr⟩ kr)
      · skip
        obtain rfl : j = od.length := by omega
        refine sd_run 7 ?_
        refine sd_see 108 (.bool false) (see_bool kr ((decide_eq_false (by omega)) : ((decide (((od.length : Nat) : Int) < ((od.length : Nat) : Int)))) = false)) ?_
        refine sd_run 39 ?_
        refine sd_loop 145 (cl (cl (cr (cr (cl (cl (cr (cr (cl (cl (cr (cl (cr (cr (cr (cr (cr f18b))))))))))))))))) [.blk 6, .blk 5, .next (cr (cr (cr (cl (cl (cr (cl (cr (cr (cr (cr (cr f18b)))))))))))), .loop (cl (cl (cr (cl (cr (cr (cr (cr (cr f18b))))))))), .blk 4, .next (cr (cr (cr (cr (cr (cr f18b))))))] kr kr kr (fun m9 s9 => ∃ (j : Nat), m9 = rd.length - j ∧ (j ≤ rd.length) ∧ s9 = ⟨tmL [(1, .pointer (some ⟨3, 0, none⟩)), (3, .int .i64 ((c.length : Nat) : Int)), (8, .slice (some ⟨2, 0, none⟩) rd.length (unk + 1)), (9, .int .i64 ((j : Nat) : Int)), (99, .slice (some ⟨4, 0, none⟩) 2 2), (100, .int .i64 2), (101, .int .i64 1)], hq [some ⟨(tab iiC c), 50, false⟩, some ⟨(tab inC od), 3, false⟩, some ⟨(tab inC rd), 3, false⟩, some ⟨[Value.slice (some ⟨0, 0, none⟩) c.length (unk + 5), .int .i64 nd, .int .i64 nr, .int .i64 hd, .int .i64 hr, .slice (some ⟨1, 0, none⟩) od.length (unk + 1), .slice (some ⟨2, 0, none⟩) rd.length (unk + 1), .int .i64 fl, .int .u32 nx, .int .i64 tg, .int .i64 br, .int .u32 tk, .int .i64 ct, .int .i64 ((c.length : Nat) : Int)], 29, false⟩, some ⟨[Value.slice (some ⟨1, 0, none⟩) od.length (unk + 1), .slice (some ⟨2, 0, none⟩) rd.length (unk + 1)], 22, false⟩]⟩) (rd.length - 0) _ (emOf [some 0, some 1, some 2, some 3, some 4]) hX ⟨0, rfl, (by omega), rfl⟩ ⟨sub_of kr kr ⟨bk_flat (tab iiC c) kr (tab_plain iiC_pl _) rfl, bk_flat (tab inC od) kr (tab_plain inC_pl _) rfl, bk_flat (tab inC rd) kr (tab_plain inC_pl _) rfl, bk_ren kr kr, bk_ren kr kr, True.intro⟩, te_of kr kr⟩ kr ?_
        rintro m9 s9 ⟨j, rfl, i6_0, rfl⟩ R6_ hR6_
        by_cases hlt_rd : j < rd.length
        · skip
          obtain ⟨a6, ha6⟩ : ∃ x_, (rd)[j]? = some x_ := ⟨_, List.getElem?_eq_getElem (by omega)⟩
          obtain ⟨qa1, qa2⟩ := valB_iff.1 (hR.rd_ j a6 ha6)
          refine sd_run 7 ?_
          refine sd_see 108 (.bool true) (see_bool kr ((decide_eq_true (by omega)) : ((decide (((j : Nat) : Int) < ((rd.length : Nat) : Int)))) = true)) ?_
          refine sd_run 11 ?_
          refine sd_ix 113 (.pointer (some ⟨2, 0 + j * 1, none⟩)) j rd.length kr kr kr (by omega) ?_
          refine sd_ld 114 (.int .i64 a6) 3 (.pointer (some ⟨2, 0 + j * 1, none⟩)) kr kr kr (ld_cell (l := rd) (e := 3) (ro := false) (k := j) (j := 0) inC_len kr kr kr ha6 rfl) ?_
          refine sd_run 1 ?_
          refine sd_see 115 (.bool false) (see_bool kr ((decide_eq_false (by omega)) : ((decide ((a6 : Int) < 0))) = false)) ?_
          refine sd_run 3 ?_
          refine sd_ix 119 (.pointer (some ⟨2, 0 + j * 1, none⟩)) j rd.length kr kr kr (by omega) ?_
          refine sd_ld 120 (.int .i64 a6) 3 (.pointer (some ⟨2, 0 + j * 1, none⟩)) kr kr kr (ld_cell (l := rd) (e := 3) (ro := false) (k := j) (j := 0) inC_len kr kr kr ha6 rfl) ?_
          refine sd_run 2 ?_
          refine sd_see 122 (.bool false) (see_bool kr ((decide_eq_false (by omega)) : ((decide ((a6 : Int) ≥ ((c.length : Nat) : Int)))) = false)) ?_
          refine sd_run 10 ?_
          refine sd_see 110 (.int .i64 ((j + 1 : Nat) : Int)) (see_int (x := (IntKind.i64.wrap (((j : Nat) : Int) + 1))) kr (w64 (by omega) (by omega) (by omega))) ?_
          refine sd_run 2 ?_
          refine sd_inv R6_ kr (hR6_ _ (rd.length - (j + 1)) _ (emOf [some 0, some 1, some 2, some 3, some 4]) (by omega) ⟨j + 1, rfl, (by omega), rfl⟩ ⟨sub_of kr kr ⟨bk_flat (tab iiC c) kr (tab_plain iiC_pl _) rfl, bk_flat (tab inC od) kr (tab_plain inC_pl _) rfl, bk_flat (tab inC rd) kr (tab_plain inC_pl _) rfl, bk_ren kr kr, bk_ren kr kr, True.intro⟩, te_of kr kr⟩ kr)
        · skip
          obtain rfl : j = rd.length := by omega
          refine sd_run 7 ?_
          refine sd_see 108 (.bool false) (see_bool kr ((decide_eq_false (by omega)) : ((decide (((rd.length : Nat) : Int) < ((rd.length : Nat) : Int)))) = false)) ?_
          refine sd_run 32 ?_
          refine sd_see 127 (.bool true) (see_bool kr ((decide_eq_true (by omega)) : ((decide ((fl : Int) ≥ (-1)))) = true)) ?_
          refine sd_run 5 ?_
          refine sd_see 132 (.bool true) (see_bool kr ((decide_eq_true (by omega)) : ((decide ((fl : Int) < ((c.length : Nat) : Int)))) = true)) ?_
          refine sd_run 5 ?_
          refine sd_see 137 (.bool true) (see_bool kr ((decide_eq_true (by omega)) : ((decide ((tg : Int) ≥ (-1)))) = true)) ?_
          refine sd_run 6 ?_
          refine sd_see 143 (.bool true) (see_bool kr ((decide_eq_true (by omega)) : ((decide ((tg : Int) < ((c.length : Nat) : Int)))) = true)) ?_
          refine sd_run 5 ?_
          refine sd_end (.bool true) hX kr kr kr (.bool true) (hq [some ⟨(tab iiC c), 50, false⟩, some ⟨(tab inC od), 3, false⟩, some ⟨(tab inC rd), 3, false⟩]) (emOf [some 0, some 1, some 2]) (sub_of kr kr ⟨bk_flat (tab iiC c) kr (tab_plain iiC_pl _) rfl, bk_flat (tab inC od) kr (tab_plain inC_pl _) rfl, bk_flat (tab inC rd) kr (tab_plain inC_pl _) rfl, True.intro⟩) (rn2_sound _ _ kr) ⟨rfl, rfl⟩
end Ls
end Go.Proofs.Ytahikechkggbfaa
