/- Chapter 20: how long values live (with all that is known). -/
import Derived.Test.YtahikechkggbfaaSq
namespace Go.Proofs.Ytahikechkggbfaa
open Go Go.Ev Go.RowKit
set_option linter.unusedVariables false
set_option linter.unusedSimpArgs false
set_option maxRecDepth 100000
namespace Ls
noncomputable def f21b : Code := Try.f21.body.getD .skip
theorem f21_body : Try.f21.body = some f21b := by kernel_rfl
theorem f21_fn : T8.fn 21 = some Try.f21 := by kernel_rfl
theorem use_s {l : List IV} {N m : Nat} {t : Int} (hm : m = l.length) (hN : N < m) (hml : m < 1099511627776) : SCall Try.prog T8 21 #[.int .i64 ((N : Nat) : Int), .int .i64 t, .pointer (some ⟨0, 0, none⟩)] (hq [some ⟨[Value.slice (some ⟨1, 0, none⟩) m (unk + 3)], 31, false⟩, some ⟨(tab ivC l), 40, false⟩]) fun v h => v = .tuple #[] ∧ h = hq [some ⟨[Value.slice (some ⟨1, 0, none⟩) m (unk + 3)], 31, false⟩, some ⟨(tab ivC (usel t l N)), 40, false⟩] := by
  refine scall_sd 18 _ 2 kr f21_fn f21_body rfl rfl rfl fun X hX => ?_
  refine sd_run 4 ?_
  refine sd_see 6 (.bool true) (see_bool kr ((decide_eq_true (by omega)) : ((decide (((N : Nat) : Int) ≥ 0))) = true)) ?_
  refine sd_run 8 ?_
  refine sd_ix 11 (.pointer (some ⟨1, 0 + N * 3, none⟩)) N m kr kr kr (by omega) ?_
  obtain ⟨a1, ha1⟩ : ∃ x_, (l)[N]? = some x_ := ⟨_, List.getElem?_eq_getElem (by omega)⟩
  refine sd_run 1 ?_
  refine sd_ld 13 (.int .i64 a1.2.2) 3 (.pointer (some ⟨1, 0 + N * 3 + 2, none⟩)) kr kr kr (ld_cell (l := l) (e := 40) (ro := false) (k := N) (j := 2) ivC_len kr kr kr ha1 rfl) ?_
  refine sd_run 2 ?_
  refine sd_see 15 (.int .i64 (max a1.2.2 t)) (see_int (x := (if t > a1.2.2 then t else a1.2.2)) kr (by split <;> omega)) ?_
  refine sd_ix 16 (.pointer (some ⟨1, 0 + N * 3, none⟩)) N m kr kr kr (by omega) ?_
  refine sd_run 1 ?_
  refine sd_st 3 1 (0 + N * 3 + 2) (.int .i64 (max a1.2.2 t)) (tab ivC ((l).set N (a1.1, a1.2.1, (max a1.2.2 t)))) (cells := tab ivC l) (e := 40) kr kr kr kr (st_cell (k := N) (j := 2) (a' := (a1.1, a1.2.1, (max a1.2.2 t))) ivC_len kr kr ha1 kr rfl) ?_
  refine sd_run 1 ?_
  refine sd_end (.tuple #[]) hX kr kr kr (.tuple #[]) (hq [some ⟨[Value.slice (some ⟨1, 0, none⟩) m (unk + 3)], 31, false⟩, some ⟨(tab ivC (usel t l N)), 40, false⟩]) (emOf [some 0, some 1]) (sub_of kr kr ⟨bk_ren kr kr, bk_flat (tab ivC ((l).set N (a1.1, a1.2.1, (max a1.2.2 t)))) kr (tab_plain ivC_pl _) (congrArg (tab ivC) (usel_at ha1)), True.intro⟩) (rn2_sound _ _ kr) ⟨rfl, rfl⟩
theorem use_no {l : List IV} {m : Nat} {t : Int}  : SCall Try.prog T8 21 #[.int .i64 (-1), .int .i64 t, .pointer (some ⟨0, 0, none⟩)] (hq [some ⟨[Value.slice (some ⟨1, 0, none⟩) m (unk + 3)], 31, false⟩, some ⟨(tab ivC l), 40, false⟩]) fun v h => v = .tuple #[] ∧ h = hq [some ⟨[Value.slice (some ⟨1, 0, none⟩) m (unk + 3)], 31, false⟩, some ⟨(tab ivC l), 40, false⟩] := by
  refine scall_sd 18 _ 2 kr f21_fn f21_body rfl rfl rfl fun X hX => ?_
  refine sd_run 8 ?_
  refine sd_end (.tuple #[]) hX kr kr kr (.tuple #[]) (hq [some ⟨[Value.slice (some ⟨1, 0, none⟩) m (unk + 3)], 31, false⟩, some ⟨(tab ivC l), 40, false⟩]) (emOf [some 0, some 1]) (sub_of kr kr ⟨bk_ren kr kr, bk_flat (tab ivC l) kr (tab_plain ivC_pl _) rfl, True.intro⟩) (rn2_sound _ _ kr) ⟨rfl, rfl⟩
noncomputable def f10b : Code := Try.f10.body.getD .skip
theorem f10_body : Try.f10.body = some f10b := by kernel_rfl
theorem f10_fn : T8.fn 10 = some Try.f10 := by kernel_rfl
set_option maxHeartbeats 4000000 in
theorem of_s {c : List II} {od rd : List Int} {nd nr hd hr fl nx tg br tk ct : Int} (hR : RightP c od rd nd nr hd hr fl tg br ct (c.length : Int)) (hol : od.length < 1099511627776) (hrl : rd.length < 1099511627776) (hi : ∀ x ∈ c, 0 ≤ x.2.2.2.2 ∧ x.2.2.2.2 < 4294967296) : SCall Try.prog T8 10 #[.agg #[.slice (some ⟨0, 0, none⟩) c.length (unk + 5), .int .i64 nd, .int .i64 nr, .int .i64 hd, .int .i64 hr, .slice (some ⟨1, 0, none⟩) od.length (unk + 1), .slice (some ⟨2, 0, none⟩) rd.length (unk + 1), .int .i64 fl, .int .u32 nx, .int .i64 tg, .int .i64 br, .int .u32 tk, .int .i64 ct, .int .i64 ((c.length : Nat) : Int)]] (hq [some ⟨(tab iiC c), 50, false⟩, some ⟨(tab inC od), 3, false⟩, some ⟨(tab inC rd), 3, false⟩]) fun v h => v = .slice (some ⟨3, 0, none⟩) c.length (unk + 3) ∧ h = hq [some ⟨(tab iiC c), 50, false⟩, some ⟨(tab inC od), 3, false⟩, some ⟨(tab inC rd), 3, false⟩, some ⟨(tab ivC (ofL c od rd fl tg)), 40, false⟩] := by
  have hlen := hR.len
  refine scall_sd 86 _ 3 kr f10_fn f10_body rfl rfl rfl fun X hX => ?_
  refine sd_run 10 ?_
  refine sd_callp 13 20 #[.agg #[.slice (some ⟨0, 0, none⟩) c.length (unk + 5), .int .i64 nd, .int .i64 nr, .int .i64 hd, .int .i64 hr, .slice (some ⟨1, 0, none⟩) od.length (unk + 1), .slice (some ⟨2, 0, none⟩) rd.length (unk + 1), .int .i64 fl, .int .u32 nx, .int .i64 tg, .int .i64 br, .int .u32 tk, .int .i64 ct, .int .i64 ((c.length : Nat) : Int)]] (right_s (c := c) (nd := nd) (nr := nr) (hd := hd) (hr := hr) (od := od) (rd := rd) (fl := fl) (nx := nx) (tg := tg) (br := br) (tk := tk) (ct := ct) (vs := ((c.length : Nat) : Int)) (by omega) hol hrl hi) [some 0, some 1, some 2] kr kr kr (hn_of 0 kr ⟨bk_flat (tab iiC c) kr (tab_plain iiC_pl _) rfl, bk_flat (tab inC od) kr (tab_plain inC_pl _) rfl, bk_flat (tab inC rd) kr (tab_plain inC_pl _) rfl, True.intro⟩) kr ?_
  rintro v9 k9 ⟨rfl, rfl⟩
  refine ⟨rfl, .bool (rightB c od rd nd nr hd hr fl tg br ct ((c.length : Nat) : Int)), kr, ?_⟩
  refine sd_see 13 (.bool true) (see_bool kr (rightB_yes hR)) ?_
  refine sd_run 20 ?_
  refine sd_loop 86 (cl (cl (cr (cl (cr (cr (cr f10b))))))) [.blk 0, .next (cr (cr (cr (cr f10b))))] kr kr kr (fun m9 s9 => ∃ (k : Nat), m9 = c.length - k ∧ (k ≤ c.length) ∧ s9 = ⟨tmL [(1, .pointer (some ⟨3, 0, none⟩)), (3, .pointer (some ⟨4, 0, none⟩)), (16, .int .i64 ((c.length : Nat) : Int)), (17, .int .i64 ((k : Nat) : Int))], hq [some ⟨(tab iiC c), 50, false⟩, some ⟨(tab inC od), 3, false⟩, some ⟨(tab inC rd), 3, false⟩, some ⟨[Value.slice (some ⟨0, 0, none⟩) c.length (unk + 5), .int .i64 nd, .int .i64 nr, .int .i64 hd, .int .i64 hr, .slice (some ⟨1, 0, none⟩) od.length (unk + 1), .slice (some ⟨2, 0, none⟩) rd.length (unk + 1), .int .i64 fl, .int .u32 nx, .int .i64 tg, .int .i64 br, .int .u32 tk, .int .i64 ct, .int .i64 ((c.length : Nat) : Int)], 29, false⟩, some ⟨[Value.slice (some ⟨5, 0, none⟩) k (unk + 3)], 31, false⟩, some ⟨(tab ivC (seedl k)), 40, false⟩]⟩) (c.length - 0) _ (emOf [some 0, some 1, some 2, some 3, some 4, none]) hX ⟨0, rfl, (by omega), rfl⟩ ⟨sub_of kr kr ⟨bk_flat (tab iiC c) kr (tab_plain iiC_pl _) rfl, bk_flat (tab inC od) kr (tab_plain inC_pl _) rfl, bk_flat (tab inC rd) kr (tab_plain inC_pl _) rfl, bk_ren kr kr, bk_ren kr kr, rfl, True.intro⟩, te_of kr kr⟩ kr ?_
  rintro m9 s9 ⟨k, rfl, i1_0, rfl⟩ R1_ hR1_
  by_cases hlt : k < c.length
  · skip
    refine sd_run 3 ?_
    refine sd_see 18 (.bool true) (see_bool kr ((decide_eq_true (by omega)) : ((decide (((k : Nat) : Int) < ((c.length : Nat) : Int)))) = true)) ?_
    refine sd_run 21 ?_
    refine sd_grow 26 31 31 40 2 23 5 k 1 7 (.slice (some ⟨6, 0, none⟩) 1 1) (tab ivC (seedl k)) [Value.int .i64 ((k : Nat) : Int), .int .i64 ((k : Nat) : Int), .int .i64 ((k : Nat) : Int)] (tab ivC (seedl k ++ [(((k : Nat) : Int), ((k : Nat) : Int), ((k : Nat) : Int))])) kr kr kr kr kr ((tab_len ivC_len _).trans (by rw [seedl_len])) kr kr (by decide) kr (by omega) kr (tab_snoc (seedl k) (((k : Nat) : Int), ((k : Nat) : Int), ((k : Nat) : Int))) ?_
    refine sd_run 6 ?_
    refine sd_see 27 (.int .i64 ((k + 1 : Nat) : Int)) (see_int (x := (IntKind.i64.wrap (((k : Nat) : Int) + 1))) kr (w64 (by omega) (by omega) (by omega))) ?_
    refine sd_run 2 ?_
    refine sd_inv R1_ kr (hR1_ _ (c.length - (k + 1)) _ (emOf [some 0, some 1, some 2, some 3, some 4, some 7]) (by omega) ⟨k + 1, rfl, (by omega), rfl⟩ ⟨sub_of kr kr ⟨bk_flat (tab iiC c) kr (tab_plain iiC_pl _) rfl, bk_flat (tab inC od) kr (tab_plain inC_pl _) rfl, bk_flat (tab inC rd) kr (tab_plain inC_pl _) rfl, bk_ren kr kr, bk_ren kr kr, bk_flat (tab ivC (seedl k ++ [(((k : Nat) : Int), ((k : Nat) : Int), ((k : Nat) : Int))])) kr (tab_plain ivC_pl _) (congrArg (tab ivC) (seedl_succ k)), True.intro⟩, te_of kr kr⟩ kr)
  · skip
    obtain rfl : k = c.length := by omega
    refine sd_run 3 ?_
    refine sd_see 18 (.bool false) (see_bool kr ((decide_eq_false (by omega)) : ((decide (((c.length : Nat) : Int) < ((c.length : Nat) : Int)))) = false)) ?_
    refine sd_run 25 ?_
    refine sd_loop 86 (cl (cl (cr (cl (cr (cr (cr (cr (cr f10b))))))))) [.blk 2, .next (cr (cr (cr (cr (cr (cr f10b))))))] kr kr kr (fun m9 s9 => ∃ (k : Nat), m9 = c.length - k ∧ (k ≤ c.length) ∧ s9 = ⟨tmL [(1, .pointer (some ⟨3, 0, none⟩)), (3, .pointer (some ⟨4, 0, none⟩)), (5, .func (.func 21) #[] #[.pointer (some ⟨4, 0, none⟩)]), (30, .slice (some ⟨0, 0, none⟩) c.length (unk + 5)), (31, .int .i64 ((c.length : Nat) : Int)), (32, .int .i64 ((k : Nat) : Int))], hq [some ⟨(tab iiC c), 50, false⟩, some ⟨(tab inC od), 3, false⟩, some ⟨(tab inC rd), 3, false⟩, some ⟨[Value.slice (some ⟨0, 0, none⟩) c.length (unk + 5), .int .i64 nd, .int .i64 nr, .int .i64 hd, .int .i64 hr, .slice (some ⟨1, 0, none⟩) od.length (unk + 1), .slice (some ⟨2, 0, none⟩) rd.length (unk + 1), .int .i64 fl, .int .u32 nx, .int .i64 tg, .int .i64 br, .int .u32 tk, .int .i64 ct, .int .i64 ((c.length : Nat) : Int)], 29, false⟩, some ⟨[Value.slice (some ⟨5, 0, none⟩) c.length (unk + 3)], 31, false⟩, some ⟨(tab ivC (codeL c k)), 40, false⟩]⟩) (c.length - 0) _ (emOf [some 0, some 1, some 2, some 3, some 4, some 5]) hX ⟨0, rfl, (by omega), rfl⟩ ⟨sub_of kr kr ⟨bk_flat (tab iiC c) kr (tab_plain iiC_pl _) rfl, bk_flat (tab inC od) kr (tab_plain inC_pl _) rfl, bk_flat (tab inC rd) kr (tab_plain inC_pl _) rfl, bk_ren kr kr, bk_ren kr kr, bk_flat (tab ivC (seedl c.length)) kr (tab_plain ivC_pl _) (congrArg (tab ivC) (by rfl)), True.intro⟩, te_of kr kr⟩ kr ?_
    rintro m9 s9 ⟨k, rfl, i2_0, rfl⟩ R2_ hR2_
    by_cases hltB : k < c.length
    · skip
      obtain ⟨a1, ha1⟩ : ∃ x_, (c)[k]? = some x_ := ⟨_, List.getElem?_eq_getElem (by omega)⟩
      have hmd := hR.code k a1 ha1
      rcases (by omega : a1.1 = 3 ∨ a1.1 = 4 ∨ (a1.1 ≠ 3 ∧ a1.1 ≠ 4)) with hop | hop | hop
      · skip
        obtain ⟨⟨qa1, qa2⟩, qb1, qb2⟩ := made_ab hmd (by omega)
        obtain ⟨A, hA⟩ := Int.eq_ofNat_of_zero_le qa1
        obtain ⟨B, hB⟩ := Int.eq_ofNat_of_zero_le qb1
        refine sd_run 3 ?_
        refine sd_see 33 (.bool true) (see_bool kr ((decide_eq_true (by omega)) : ((decide (((k : Nat) : Int) < ((c.length : Nat) : Int)))) = true)) ?_
        refine sd_run 11 ?_
        refine sd_ix 35 (.pointer (some ⟨0, 0 + k * 5, none⟩)) k c.length kr kr kr (by omega) ?_
        refine sd_ld 36 (.agg #[.int .i64 a1.1, .int .i64 a1.2.1, .int .i64 a1.2.2.1, .int .i64 a1.2.2.2.1, .int .u32 a1.2.2.2.2]) 50 (.pointer (some ⟨0, 0 + k * 5, none⟩)) kr kr kr (ld_row (l := c) (e := 50) (ro := false) (k := k) iiC_len kr kr kr ha1) ?_
        refine sd_run 9 ?_
        refine sd_see 38 (.int .i64 3) (see_int (x := a1.1) kr (by omega)) ?_
        refine sd_run 14 ?_
        refine sd_see 47 (.int .i64 ((A : Nat) : Int)) (see_int (x := a1.2.2.1) kr hA) ?_
        refine sd_run 1 ?_
        refine sd_call 49 21 #[.int .i64 ((A : Nat) : Int), .int .i64 ((k : Nat) : Int), .pointer (some ⟨4, 0, none⟩)] (use_s (N := A) (t := ((k : Nat) : Int)) (m := c.length) (l := codeL c k) (by simp) (by omega) (by omega)) (emOf [some 4, some 5]) kr kr kr (hn_of 0 kr ⟨bk_ren kr kr, bk_flat (tab ivC (codeL c k)) kr (tab_plain ivC_pl _) rfl, True.intro⟩) (rnG_sound rn2_sound _ _ kr) ?_
        rintro v9 k9 ⟨rfl, rfl⟩
        refine ⟨.tuple #[], hq [some ⟨(tab iiC c), 50, false⟩, some ⟨(tab inC od), 3, false⟩, some ⟨(tab inC rd), 3, false⟩, some ⟨[Value.slice (some ⟨0, 0, none⟩) c.length (unk + 5), .int .i64 nd, .int .i64 nr, .int .i64 hd, .int .i64 hr, .slice (some ⟨1, 0, none⟩) od.length (unk + 1), .slice (some ⟨2, 0, none⟩) rd.length (unk + 1), .int .i64 fl, .int .u32 nx, .int .i64 tg, .int .i64 br, .int .u32 tk, .int .i64 ct, .int .i64 ((c.length : Nat) : Int)], 29, false⟩, some ⟨[Value.slice (some ⟨5, 0, none⟩) c.length (unk + 3)], 31, false⟩, some ⟨(tab ivC (usel ((k : Nat) : Int) (codeL c k) A)), 40, false⟩, some ⟨[Value.int .i64 a1.1, .int .i64 a1.2.1, .int .i64 a1.2.2.1, .int .i64 a1.2.2.2.1, .int .u32 a1.2.2.2.2], 50, false⟩], glue_of kr kr ⟨cov_old kr kr, cov_old kr kr, cov_old kr kr, cov_old kr kr, cov_same 0 (hn_of 0 kr ⟨bk_ren kr kr, bk_flat (tab ivC (codeL c k)) kr (tab_plain ivC_pl _) rfl, True.intro⟩) kr kr kr kr kr, cov_flat 1 kr kr (tab_plain ivC_pl _), cov_old kr kr, True.intro⟩, rn2_sound _ _ kr, ?_⟩
        refine sd_run 6 ?_
        refine sd_see 52 (.int .i64 ((B : Nat) : Int)) (see_int (x := a1.2.2.2.1) kr hB) ?_
        refine sd_run 1 ?_
        refine sd_call 54 21 #[.int .i64 ((B : Nat) : Int), .int .i64 ((k : Nat) : Int), .pointer (some ⟨4, 0, none⟩)] (use_s (N := B) (t := ((k : Nat) : Int)) (m := c.length) (l := usel ((k : Nat) : Int) (codeL c k) A) (by simp) (by omega) (by omega)) (emOf [some 4, some 5]) kr kr kr (hn_of 0 kr ⟨bk_ren kr kr, bk_flat (tab ivC (usel ((k : Nat) : Int) (codeL c k) A)) kr (tab_plain ivC_pl _) rfl, True.intro⟩) (rnG_sound rn2_sound _ _ kr) ?_
        rintro v9 k9 ⟨rfl, rfl⟩
        refine ⟨.tuple #[], hq [some ⟨(tab iiC c), 50, false⟩, some ⟨(tab inC od), 3, false⟩, some ⟨(tab inC rd), 3, false⟩, some ⟨[Value.slice (some ⟨0, 0, none⟩) c.length (unk + 5), .int .i64 nd, .int .i64 nr, .int .i64 hd, .int .i64 hr, .slice (some ⟨1, 0, none⟩) od.length (unk + 1), .slice (some ⟨2, 0, none⟩) rd.length (unk + 1), .int .i64 fl, .int .u32 nx, .int .i64 tg, .int .i64 br, .int .u32 tk, .int .i64 ct, .int .i64 ((c.length : Nat) : Int)], 29, false⟩, some ⟨[Value.slice (some ⟨5, 0, none⟩) c.length (unk + 3)], 31, false⟩, some ⟨(tab ivC (usel ((k : Nat) : Int) (usel ((k : Nat) : Int) (codeL c k) A) B)), 40, false⟩, some ⟨[Value.int .i64 a1.1, .int .i64 a1.2.1, .int .i64 a1.2.2.1, .int .i64 a1.2.2.2.1, .int .u32 a1.2.2.2.2], 50, false⟩], glue_of kr kr ⟨cov_old kr kr, cov_old kr kr, cov_old kr kr, cov_old kr kr, cov_same 0 (hn_of 0 kr ⟨bk_ren kr kr, bk_flat (tab ivC (usel ((k : Nat) : Int) (codeL c k) A)) kr (tab_plain ivC_pl _) rfl, True.intro⟩) kr kr kr kr kr, cov_flat 1 kr kr (tab_plain ivC_pl _), cov_old kr kr, True.intro⟩, rn2_sound _ _ kr, ?_⟩
        refine sd_run 5 ?_
        refine sd_see 55 (.int .i64 ((k + 1 : Nat) : Int)) (see_int (x := (IntKind.i64.wrap (((k : Nat) : Int) + 1))) kr (w64 (by omega) (by omega) (by omega))) ?_
        refine sd_run 2 ?_
        refine sd_inv R2_ kr (hR2_ _ (c.length - (k + 1)) _ (emOf [some 0, some 1, some 2, some 3, some 4, some 5]) (by omega) ⟨k + 1, rfl, (by omega), rfl⟩ ⟨sub_of kr kr ⟨bk_flat (tab iiC c) kr (tab_plain iiC_pl _) rfl, bk_flat (tab inC od) kr (tab_plain inC_pl _) rfl, bk_flat (tab inC rd) kr (tab_plain inC_pl _) rfl, bk_ren kr kr, bk_ren kr kr, bk_flat (tab ivC (usel ((k : Nat) : Int) (usel ((k : Nat) : Int) (codeL c k) A) B)) kr (tab_plain ivC_pl _) (congrArg (tab ivC) (by rw [codeL_use ha1 (by omega), hA, hB, useI_nat, useI_nat])), True.intro⟩, te_of kr kr⟩ kr)
      · skip
        obtain ⟨⟨qa1, qa2⟩, qb1, qb2⟩ := made_ab hmd (by omega)
        obtain ⟨A, hA⟩ := Int.eq_ofNat_of_zero_le qa1
        obtain ⟨B, hB⟩ := Int.eq_ofNat_of_zero_le qb1
        refine sd_run 3 ?_
        refine sd_see 33 (.bool true) (see_bool kr ((decide_eq_true (by omega)) : ((decide (((k : Nat) : Int) < ((c.length : Nat) : Int)))) = true)) ?_
        refine sd_run 11 ?_
        refine sd_ix 35 (.pointer (some ⟨0, 0 + k * 5, none⟩)) k c.length kr kr kr (by omega) ?_
        refine sd_ld 36 (.agg #[.int .i64 a1.1, .int .i64 a1.2.1, .int .i64 a1.2.2.1, .int .i64 a1.2.2.2.1, .int .u32 a1.2.2.2.2]) 50 (.pointer (some ⟨0, 0 + k * 5, none⟩)) kr kr kr (ld_row (l := c) (e := 50) (ro := false) (k := k) iiC_len kr kr kr ha1) ?_
        refine sd_run 9 ?_
        refine sd_see 38 (.int .i64 4) (see_int (x := a1.1) kr (by omega)) ?_
        refine sd_run 4 ?_
        refine sd_see 42 (.int .i64 4) (see_int (x := a1.1) kr (by omega)) ?_
        refine sd_run 10 ?_
        refine sd_see 47 (.int .i64 ((A : Nat) : Int)) (see_int (x := a1.2.2.1) kr hA) ?_
        refine sd_run 1 ?_
        refine sd_call 49 21 #[.int .i64 ((A : Nat) : Int), .int .i64 ((k : Nat) : Int), .pointer (some ⟨4, 0, none⟩)] (use_s (N := A) (t := ((k : Nat) : Int)) (m := c.length) (l := codeL c k) (by simp) (by omega) (by omega)) (emOf [some 4, some 5]) kr kr kr (hn_of 0 kr ⟨bk_ren kr kr, bk_flat (tab ivC (codeL c k)) kr (tab_plain ivC_pl _) rfl, True.intro⟩) (rnG_sound rn2_sound _ _ kr) ?_
        rintro v9 k9 ⟨rfl, rfl⟩
        refine ⟨.tuple #[], hq [some ⟨(tab iiC c), 50, false⟩, some ⟨(tab inC od), 3, false⟩, some ⟨(tab inC rd), 3, false⟩, some ⟨[Value.slice (some ⟨0, 0, none⟩) c.length (unk + 5), .int .i64 nd, .int .i64 nr, .int .i64 hd, .int .i64 hr, .slice (some ⟨1, 0, none⟩) od.length (unk + 1), .slice (some ⟨2, 0, none⟩) rd.length (unk + 1), .int .i64 fl, .int .u32 nx, .int .i64 tg, .int .i64 br, .int .u32 tk, .int .i64 ct, .int .i64 ((c.length : Nat) : Int)], 29, false⟩, some ⟨[Value.slice (some ⟨5, 0, none⟩) c.length (unk + 3)], 31, false⟩, some ⟨(tab ivC (usel ((k : Nat) : Int) (codeL c k) A)), 40, false⟩, some ⟨[Value.int .i64 a1.1, .int .i64 a1.2.1, .int .i64 a1.2.2.1, .int .i64 a1.2.2.2.1, .int .u32 a1.2.2.2.2], 50, false⟩], glue_of kr kr ⟨cov_old kr kr, cov_old kr kr, cov_old kr kr, cov_old kr kr, cov_same 0 (hn_of 0 kr ⟨bk_ren kr kr, bk_flat (tab ivC (codeL c k)) kr (tab_plain ivC_pl _) rfl, True.intro⟩) kr kr kr kr kr, cov_flat 1 kr kr (tab_plain ivC_pl _), cov_old kr kr, True.intro⟩, rn2_sound _ _ kr, ?_⟩
        refine sd_run 6 ?_
        refine sd_see 52 (.int .i64 ((B : Nat) : Int)) (see_int (x := a1.2.2.2.1) kr hB) ?_
        refine sd_run 1 ?_
        refine sd_call 54 21 #[.int .i64 ((B : Nat) : Int), .int .i64 ((k : Nat) : Int), .pointer (some ⟨4, 0, none⟩)] (use_s (N := B) (t := ((k : Nat) : Int)) (m := c.length) (l := usel ((k : Nat) : Int) (codeL c k) A) (by simp) (by omega) (by omega)) (emOf [some 4, some 5]) kr kr kr (hn_of 0 kr ⟨bk_ren kr kr, bk_flat (tab ivC (usel ((k : Nat) : Int) (codeL c k) A)) kr (tab_plain ivC_pl _) rfl, True.intro⟩) (rnG_sound rn2_sound _ _ kr) ?_
        rintro v9 k9 ⟨rfl, rfl⟩
        refine ⟨.tuple #[], hq [some ⟨(tab iiC c), 50, false⟩, some ⟨(tab inC od), 3, false⟩, some ⟨(tab inC rd), 3, false⟩, some ⟨[Value.slice (some ⟨0, 0, none⟩) c.length (unk + 5), .int .i64 nd, .int .i64 nr, .int .i64 hd, .int .i64 hr, .slice (some ⟨1, 0, none⟩) od.length (unk + 1), .slice (some ⟨2, 0, none⟩) rd.length (unk + 1), .int .i64 fl, .int .u32 nx, .int .i64 tg, .int .i64 br, .int .u32 tk, .int .i64 ct, .int .i64 ((c.length : Nat) : Int)], 29, false⟩, some ⟨[Value.slice (some ⟨5, 0, none⟩) c.length (unk + 3)], 31, false⟩, some ⟨(tab ivC (usel ((k : Nat) : Int) (usel ((k : Nat) : Int) (codeL c k) A) B)), 40, false⟩, some ⟨[Value.int .i64 a1.1, .int .i64 a1.2.1, .int .i64 a1.2.2.1, .int .i64 a1.2.2.2.1, .int .u32 a1.2.2.2.2], 50, false⟩], glue_of kr kr ⟨cov_old kr kr, cov_old kr kr, cov_old kr kr, cov_old kr kr, cov_same 0 (hn_of 0 kr ⟨bk_ren kr kr, bk_flat (tab ivC (usel ((k : Nat) : Int) (codeL c k) A)) kr (tab_plain ivC_pl _) rfl, True.intro⟩) kr kr kr kr kr, cov_flat 1 kr kr (tab_plain ivC_pl _), cov_old kr kr, True.intro⟩, rn2_sound _ _ kr, ?_⟩
        refine sd_run 5 ?_
        refine sd_see 55 (.int .i64 ((k + 1 : Nat) : Int)) (see_int (x := (IntKind.i64.wrap (((k : Nat) : Int) + 1))) kr (w64 (by omega) (by omega) (by omega))) ?_
        refine sd_run 2 ?_
        refine sd_inv R2_ kr (hR2_ _ (c.length - (k + 1)) _ (emOf [some 0, some 1, some 2, some 3, some 4, some 5]) (by omega) ⟨k + 1, rfl, (by omega), rfl⟩ ⟨sub_of kr kr ⟨bk_flat (tab iiC c) kr (tab_plain iiC_pl _) rfl, bk_flat (tab inC od) kr (tab_plain inC_pl _) rfl, bk_flat (tab inC rd) kr (tab_plain inC_pl _) rfl, bk_ren kr kr, bk_ren kr kr, bk_flat (tab ivC (usel ((k : Nat) : Int) (usel ((k : Nat) : Int) (codeL c k) A) B)) kr (tab_plain ivC_pl _) (congrArg (tab ivC) (by rw [codeL_use ha1 (by omega), hA, hB, useI_nat, useI_nat])), True.intro⟩, te_of kr kr⟩ kr)
      · skip
        refine sd_run 3 ?_
        refine sd_see 33 (.bool true) (see_bool kr ((decide_eq_true (by omega)) : ((decide (((k : Nat) : Int) < ((c.length : Nat) : Int)))) = true)) ?_
        refine sd_run 11 ?_
        refine sd_ix 35 (.pointer (some ⟨0, 0 + k * 5, none⟩)) k c.length kr kr kr (by omega) ?_
        refine sd_ld 36 (.agg #[.int .i64 a1.1, .int .i64 a1.2.1, .int .i64 a1.2.2.1, .int .i64 a1.2.2.2.1, .int .u32 a1.2.2.2.2]) 50 (.pointer (some ⟨0, 0 + k * 5, none⟩)) kr kr kr (ld_row (l := c) (e := 50) (ro := false) (k := k) iiC_len kr kr kr ha1) ?_
        refine sd_run 10 ?_
        refine sd_see 39 (.bool false) (see_bool kr ((beq_eq_false_iff_ne.2 (by omega)) : (((a1.1 : Int) == 3)) = false)) ?_
        refine sd_run 4 ?_
        refine sd_see 43 (.bool false) (see_bool kr ((beq_eq_false_iff_ne.2 (by omega)) : (((a1.1 : Int) == 4)) = false)) ?_
        refine sd_run 9 ?_
        refine sd_see 55 (.int .i64 ((k + 1 : Nat) : Int)) (see_int (x := (IntKind.i64.wrap (((k : Nat) : Int) + 1))) kr (w64 (by omega) (by omega) (by omega))) ?_
        refine sd_run 2 ?_
        refine sd_inv R2_ kr (hR2_ _ (c.length - (k + 1)) _ (emOf [some 0, some 1, some 2, some 3, some 4, some 5]) (by omega) ⟨k + 1, rfl, (by omega), rfl⟩ ⟨sub_of kr kr ⟨bk_flat (tab iiC c) kr (tab_plain iiC_pl _) rfl, bk_flat (tab inC od) kr (tab_plain inC_pl _) rfl, bk_flat (tab inC rd) kr (tab_plain inC_pl _) rfl, bk_ren kr kr, bk_ren kr kr, bk_flat (tab ivC (codeL c k)) kr (tab_plain ivC_pl _) (congrArg (tab ivC) (codeL_no ha1 (by omega)).symm), True.intro⟩, te_of kr kr⟩ kr)
    · skip
      obtain rfl : k = c.length := by omega
      refine sd_run 3 ?_
      refine sd_see 33 (.bool false) (see_bool kr ((decide_eq_false (by omega)) : ((decide (((c.length : Nat) : Int) < ((c.length : Nat) : Int)))) = false)) ?_
      refine sd_run 54 ?_
      refine sd_loop 86 (cl (cl (cr (cr (cl (cl (cr (cr (cl (cl (cr (cl (cr (cr (cr (cr (cr (cr f10b)))))))))))))))))) [.blk 6, .blk 5, .next (cr (cr (cr (cl (cl (cr (cl (cr (cr (cr (cr (cr (cr f10b))))))))))))), .loop (cl (cl (cr (cl (cr (cr (cr (cr (cr (cr f10b)))))))))), .blk 4, .next (cr (cr (cr (cr (cr (cr (cr f10b)))))))] kr kr kr (fun m9 s9 => ∃ (j : Nat), m9 = od.length - j ∧ (j ≤ od.length) ∧ s9 = ⟨tmL [(1, .pointer (some ⟨3, 0, none⟩)), (3, .pointer (some ⟨4, 0, none⟩)), (5, .func (.func 21) #[] #[.pointer (some ⟨4, 0, none⟩)]), (65, .slice (some ⟨7, 0, none⟩) 3 3), (66, .int .i64 3), (67, .int .i64 0), (71, .slice (some ⟨1, 0, none⟩) od.length (unk + 1)), (72, .int .i64 ((od.length : Nat) : Int)), (73, .int .i64 ((j : Nat) : Int))], hq [some ⟨(tab iiC c), 50, false⟩, some ⟨(tab inC od), 3, false⟩, some ⟨(tab inC rd), 3, false⟩, some ⟨[Value.slice (some ⟨0, 0, none⟩) c.length (unk + 5), .int .i64 nd, .int .i64 nr, .int .i64 hd, .int .i64 hr, .slice (some ⟨1, 0, none⟩) od.length (unk + 1), .slice (some ⟨2, 0, none⟩) rd.length (unk + 1), .int .i64 fl, .int .u32 nx, .int .i64 tg, .int .i64 br, .int .u32 tk, .int .i64 ct, .int .i64 ((c.length : Nat) : Int)], 29, false⟩, some ⟨[Value.slice (some ⟨5, 0, none⟩) c.length (unk + 3)], 31, false⟩, some ⟨(tab ivC (outL (c.length : Int) (codeL c c.length) (od.take j))), 40, false⟩, some ⟨[Value.int .i64 fl, .int .i64 tg], 3, false⟩, some ⟨[Value.slice (some ⟨1, 0, none⟩) od.length (unk + 1), .slice (some ⟨2, 0, none⟩) rd.length (unk + 1), .slice (some ⟨6, 0, none⟩) 2 2], 22, false⟩]⟩) (od.length - 0) _ (emOf [some 0, some 1, some 2, some 3, some 4, some 5, some 6, some 7]) hX ⟨0, rfl, (by omega), rfl⟩ ⟨sub_of kr kr ⟨bk_flat (tab iiC c) kr (tab_plain iiC_pl _) rfl, bk_flat (tab inC od) kr (tab_plain inC_pl _) rfl, bk_flat (tab inC rd) kr (tab_plain inC_pl _) rfl, bk_ren kr kr, bk_ren kr kr, bk_flat (tab ivC (codeL c c.length)) kr (tab_plain ivC_pl _) (congrArg (tab ivC) (by rfl)), bk_ren kr kr, bk_ren kr kr, True.intro⟩, te_of kr kr⟩ kr ?_
      rintro m9 s9 ⟨j, rfl, i3_0, rfl⟩ R3_ hR3_
      by_cases hlt_od : j < od.length
      · skip
        obtain ⟨a2, ha2⟩ : ∃ x_, (od)[j]? = some x_ := ⟨_, List.getElem?_eq_getElem (by omega)⟩
        obtain ⟨qa1, qa2⟩ := valB_iff.1 (hR.od_ j a2 ha2)
        obtain ⟨A, hA⟩ := Int.eq_ofNat_of_zero_le qa1
        refine sd_run 3 ?_
        refine sd_see 74 (.bool true) (see_bool kr ((decide_eq_true (by omega)) : ((decide (((j : Nat) : Int) < ((od.length : Nat) : Int)))) = true)) ?_
        refine sd_run 10 ?_
        refine sd_ix 75 (.pointer (some ⟨1, 0 + j * 1, none⟩)) j od.length kr kr kr (by omega) ?_
        refine sd_ld 76 (.int .i64 a2) 3 (.pointer (some ⟨1, 0 + j * 1, none⟩)) kr kr kr (ld_cell (l := od) (e := 3) (ro := false) (k := j) (j := 0) inC_len kr kr kr ha2 rfl) ?_
        refine sd_see 76 (.int .i64 ((A : Nat) : Int)) (see_int (x := a2) kr hA) ?_
        refine sd_run 9 ?_
        refine sd_call 82 21 #[.int .i64 ((A : Nat) : Int), .int .i64 ((c.length : Nat) : Int), .pointer (some ⟨4, 0, none⟩)] (use_s (N := A) (t := ((c.length : Nat) : Int)) (m := c.length) (l := outL (c.length : Int) (codeL c c.length) (od.take j)) (by simp) (by omega) (by omega)) (emOf [some 4, some 5]) kr kr kr (hn_of 0 kr ⟨bk_ren kr kr, bk_flat (tab ivC (outL (c.length : Int) (codeL c c.length) (od.take j))) kr (tab_plain ivC_pl _) rfl, True.intro⟩) (rnG_sound rn2_sound _ _ kr) ?_
        rintro v9 k9 ⟨rfl, rfl⟩
        refine ⟨.tuple #[], hq [some ⟨(tab iiC c), 50, false⟩, some ⟨(tab inC od), 3, false⟩, some ⟨(tab inC rd), 3, false⟩, some ⟨[Value.slice (some ⟨0, 0, none⟩) c.length (unk + 5), .int .i64 nd, .int .i64 nr, .int .i64 hd, .int .i64 hr, .slice (some ⟨1, 0, none⟩) od.length (unk + 1), .slice (some ⟨2, 0, none⟩) rd.length (unk + 1), .int .i64 fl, .int .u32 nx, .int .i64 tg, .int .i64 br, .int .u32 tk, .int .i64 ct, .int .i64 ((c.length : Nat) : Int)], 29, false⟩, some ⟨[Value.slice (some ⟨5, 0, none⟩) c.length (unk + 3)], 31, false⟩, some ⟨(tab ivC (usel ((c.length : Nat) : Int) (outL (c.length : Int) (codeL c c.length) (od.take j)) A)), 40, false⟩, some ⟨[Value.int .i64 fl, .int .i64 tg], 3, false⟩, some ⟨[Value.slice (some ⟨1, 0, none⟩) od.length (unk + 1), .slice (some ⟨2, 0, none⟩) rd.length (unk + 1), .slice (some ⟨6, 0, none⟩) 2 2], 22, false⟩], glue_of kr kr ⟨cov_old kr kr, cov_old kr kr, cov_old kr kr, cov_old kr kr, cov_same 0 (hn_of 0 kr ⟨bk_ren kr kr, bk_flat (tab ivC (outL (c.length : Int) (codeL c c.length) (od.take j))) kr (tab_plain ivC_pl _) rfl, True.intro⟩) kr kr kr kr kr, cov_flat 1 kr kr (tab_plain ivC_pl _), cov_old kr kr, cov_old kr kr, True.intro⟩, rn2_sound _ _ kr, ?_⟩
        refine sd_run 5 ?_
        refine sd_see 83 (.int .i64 ((j + 1 : Nat) : Int)) (see_int (x := (IntKind.i64.wrap (((j : Nat) : Int) + 1))) kr (w64 (by omega) (by omega) (by omega))) ?_
        refine sd_run 2 ?_
        refine sd_inv R3_ kr (hR3_ _ (od.length - (j + 1)) _ (emOf [some 0, some 1, some 2, some 3, some 4, some 5, some 6, some 7]) (by omega) ⟨j + 1, rfl, (by omega), rfl⟩ ⟨sub_of kr kr ⟨bk_flat (tab iiC c) kr (tab_plain iiC_pl _) rfl, bk_flat (tab inC od) kr (tab_plain inC_pl _) rfl, bk_flat (tab inC rd) kr (tab_plain inC_pl _) rfl, bk_ren kr kr, bk_ren kr kr, bk_flat (tab ivC (usel ((c.length : Nat) : Int) (outL (c.length : Int) (codeL c c.length) (od.take j)) A)) kr (tab_plain ivC_pl _) (congrArg (tab ivC) (by rw [outL_succ ha2, hA, useI_nat])), bk_ren kr kr, bk_ren kr kr, True.intro⟩, te_of kr kr⟩ kr)
      · skip
        obtain rfl : j = od.length := by omega
        refine sd_run 3 ?_
        refine sd_see 74 (.bool false) (see_bool kr ((decide_eq_false (by omega)) : ((decide (((od.length : Nat) : Int) < ((od.length : Nat) : Int)))) = false)) ?_
        refine sd_run 42 ?_
        refine sd_loop 86 (cl (cl (cr (cr (cl (cl (cr (cr (cl (cl (cr (cl (cr (cr (cr (cr (cr (cr f10b)))))))))))))))))) [.blk 6, .blk 5, .next (cr (cr (cr (cl (cl (cr (cl (cr (cr (cr (cr (cr (cr f10b))))))))))))), .loop (cl (cl (cr (cl (cr (cr (cr (cr (cr (cr f10b)))))))))), .blk 4, .next (cr (cr (cr (cr (cr (cr (cr f10b)))))))] kr kr kr (fun m9 s9 => ∃ (j : Nat), m9 = rd.length - j ∧ (j ≤ rd.length) ∧ s9 = ⟨tmL [(1, .pointer (some ⟨3, 0, none⟩)), (3, .pointer (some ⟨4, 0, none⟩)), (5, .func (.func 21) #[] #[.pointer (some ⟨4, 0, none⟩)]), (65, .slice (some ⟨7, 0, none⟩) 3 3), (66, .int .i64 3), (67, .int .i64 1), (71, .slice (some ⟨2, 0, none⟩) rd.length (unk + 1)), (72, .int .i64 ((rd.length : Nat) : Int)), (73, .int .i64 ((j : Nat) : Int))], hq [some ⟨(tab iiC c), 50, false⟩, some ⟨(tab inC od), 3, false⟩, some ⟨(tab inC rd), 3, false⟩, some ⟨[Value.slice (some ⟨0, 0, none⟩) c.length (unk + 5), .int .i64 nd, .int .i64 nr, .int .i64 hd, .int .i64 hr, .slice (some ⟨1, 0, none⟩) od.length (unk + 1), .slice (some ⟨2, 0, none⟩) rd.length (unk + 1), .int .i64 fl, .int .u32 nx, .int .i64 tg, .int .i64 br, .int .u32 tk, .int .i64 ct, .int .i64 ((c.length : Nat) : Int)], 29, false⟩, some ⟨[Value.slice (some ⟨5, 0, none⟩) c.length (unk + 3)], 31, false⟩, some ⟨(tab ivC (outL (c.length : Int) (outL (c.length : Int) (codeL c c.length) (od.take od.length)) (rd.take j))), 40, false⟩, some ⟨[Value.int .i64 fl, .int .i64 tg], 3, false⟩, some ⟨[Value.slice (some ⟨1, 0, none⟩) od.length (unk + 1), .slice (some ⟨2, 0, none⟩) rd.length (unk + 1), .slice (some ⟨6, 0, none⟩) 2 2], 22, false⟩]⟩) (rd.length - 0) _ (emOf [some 0, some 1, some 2, some 3, some 4, some 5, some 6, some 7]) hX ⟨0, rfl, (by omega), rfl⟩ ⟨sub_of kr kr ⟨bk_flat (tab iiC c) kr (tab_plain iiC_pl _) rfl, bk_flat (tab inC od) kr (tab_plain inC_pl _) rfl, bk_flat (tab inC rd) kr (tab_plain inC_pl _) rfl, bk_ren kr kr, bk_ren kr kr, bk_flat (tab ivC (outL (c.length : Int) (codeL c c.length) (od.take od.length))) kr (tab_plain ivC_pl _) (congrArg (tab ivC) (by rfl)), bk_ren kr kr, bk_ren kr kr, True.intro⟩, te_of kr kr⟩ kr ?_
        rintro m9 s9 ⟨j, rfl, i4_0, rfl⟩ R4_ hR4_
        by_cases hlt_rd : j < rd.length
        · skip
          obtain ⟨a3, ha3⟩ : ∃ x_, (rd)[j]? = some x_ := ⟨_, List.getElem?_eq_getElem (by omega)⟩
          obtain ⟨qa1, qa2⟩ := valB_iff.1 (hR.rd_ j a3 ha3)
          obtain ⟨A, hA⟩ := Int.eq_ofNat_of_zero_le qa1
          refine sd_run 3 ?_
          refine sd_see 74 (.bool true) (see_bool kr ((decide_eq_true (by omega)) : ((decide (((j : Nat) : Int) < ((rd.length : Nat) : Int)))) = true)) ?_
          refine sd_run 10 ?_
          refine sd_ix 75 (.pointer (some ⟨2, 0 + j * 1, none⟩)) j rd.length kr kr kr (by omega) ?_
          refine sd_ld 76 (.int .i64 a3) 3 (.pointer (some ⟨2, 0 + j * 1, none⟩)) kr kr kr (ld_cell (l := rd) (e := 3) (ro := false) (k := j) (j := 0) inC_len kr kr kr ha3 rfl) ?_
          refine sd_see 76 (.int .i64 ((A : Nat) : Int)) (see_int (x := a3) kr hA) ?_
          refine sd_run 9 ?_
          refine sd_call 82 21 #[.int .i64 ((A : Nat) : Int), .int .i64 ((c.length : Nat) : Int), .pointer (some ⟨4, 0, none⟩)] (use_s (N := A) (t := ((c.length : Nat) : Int)) (m := c.length) (l := outL (c.length : Int) (outL (c.length : Int) (codeL c c.length) (od.take od.length)) (rd.take j)) (by simp) (by omega) (by omega)) (emOf [some 4, some 5]) kr kr kr (hn_of 0 kr ⟨bk_ren kr kr, bk_flat (tab ivC (outL (c.length : Int) (outL (c.length : Int) (codeL c c.length) (od.take od.length)) (rd.take j))) kr (tab_plain ivC_pl _) rfl, True.intro⟩) (rnG_sound rn2_sound _ _ kr) ?_
          rintro v9 k9 ⟨rfl, rfl⟩
          refine ⟨.tuple #[], hq [some ⟨(tab iiC c), 50, false⟩, some ⟨(tab inC od), 3, false⟩, some ⟨(tab inC rd), 3, false⟩, some ⟨[Value.slice (some ⟨0, 0, none⟩) c.length (unk + 5), .int .i64 nd, .int .i64 nr, .int .i64 hd, .int .i64 hr, .slice (some ⟨1, 0, none⟩) od.length (unk + 1), .slice (some ⟨2, 0, none⟩) rd.length (unk + 1), .int .i64 fl, .int .u32 nx, .int .i64 tg, .int .i64 br, .int .u32 tk, .int .i64 ct, .int .i64 ((c.length : Nat) : Int)], 29, false⟩, some ⟨[Value.slice (some ⟨5, 0, none⟩) c.length (unk + 3)], 31, false⟩, some ⟨(tab ivC (usel ((c.length : Nat) : Int) (outL (c.length : Int) (outL (c.length : Int) (codeL c c.length) (od.take od.length)) (rd.take j)) A)), 40, false⟩, some ⟨[Value.int .i64 fl, .int .i64 tg], 3, false⟩, some ⟨[Value.slice (some ⟨1, 0, none⟩) od.length (unk + 1), .slice (some ⟨2, 0, none⟩) rd.length (unk + 1), .slice (some ⟨6, 0, none⟩) 2 2], 22, false⟩], glue_of kr kr ⟨cov_old kr kr, cov_old kr kr, cov_old kr kr, cov_old kr kr, cov_same 0 (hn_of 0 kr ⟨bk_ren kr kr, bk_flat (tab ivC (outL (c.length : Int) (outL (c.length : Int) (codeL c c.length) (od.take od.length)) (rd.take j))) kr (tab_plain ivC_pl _) rfl, True.intro⟩) kr kr kr kr kr, cov_flat 1 kr kr (tab_plain ivC_pl _), cov_old kr kr, cov_old kr kr, True.intro⟩, rn2_sound _ _ kr, ?_⟩
          refine sd_run 5 ?_
          refine sd_see 83 (.int .i64 ((j + 1 : Nat) : Int)) (see_int (x := (IntKind.i64.wrap (((j : Nat) : Int) + 1))) kr (w64 (by omega) (by omega) (by omega))) ?_
          refine sd_run 2 ?_
          refine sd_inv R4_ kr (hR4_ _ (rd.length - (j + 1)) _ (emOf [some 0, some 1, some 2, some 3, some 4, some 5, some 6, some 7]) (by omega) ⟨j + 1, rfl, (by omega), rfl⟩ ⟨sub_of kr kr ⟨bk_flat (tab iiC c) kr (tab_plain iiC_pl _) rfl, bk_flat (tab inC od) kr (tab_plain inC_pl _) rfl, bk_flat (tab inC rd) kr (tab_plain inC_pl _) rfl, bk_ren kr kr, bk_ren kr kr, bk_flat (tab ivC (usel ((c.length : Nat) : Int) (outL (c.length : Int) (outL (c.length : Int) (codeL c c.length) (od.take od.length)) (rd.take j)) A)) kr (tab_plain ivC_pl _) (congrArg (tab ivC) (by rw [outL_succ ha3, hA, useI_nat])), bk_ren kr kr, bk_ren kr kr, True.intro⟩, te_of kr kr⟩ kr)
        · skip
          obtain rfl : j = rd.length := by omega
          refine sd_run 3 ?_
          refine sd_see 74 (.bool false) (see_bool kr ((decide_eq_false (by omega)) : ((decide (((rd.length : Nat) : Int) < ((rd.length : Nat) : Int)))) = false)) ?_
          refine sd_run 42 ?_
          rcases hR.fl_ with hfl | hfl
          · skip
            subst hfl
            rcases hR.tg_ with htg | htg
            · skip
              subst htg
              refine sd_run 25 ?_
              refine sd_callp 82 21 #[.int .i64 (-1), .int .i64 ((c.length : Nat) : Int), .pointer (some ⟨4, 0, none⟩)] (use_no (t := ((c.length : Nat) : Int)) (m := c.length) (l := outL (c.length : Int) (outL (c.length : Int) (codeL c c.length) (od.take od.length)) (rd.take rd.length)) ) [some 4, some 5] kr kr kr (hn_of 0 kr ⟨bk_ren kr kr, bk_flat (tab ivC (outL (c.length : Int) (outL (c.length : Int) (codeL c c.length) (od.take od.length)) (rd.take rd.length))) kr (tab_plain ivC_pl _) rfl, True.intro⟩) kr ?_
              rintro v9 k9 ⟨rfl, rfl⟩
              refine ⟨rfl, .tuple #[], kr, ?_⟩
              refine sd_run 8 ?_
              refine sd_run 25 ?_
              refine sd_callp 82 21 #[.int .i64 (-1), .int .i64 ((c.length : Nat) : Int), .pointer (some ⟨4, 0, none⟩)] (use_no (t := ((c.length : Nat) : Int)) (m := c.length) (l := outL (c.length : Int) (outL (c.length : Int) (codeL c c.length) (od.take od.length)) (rd.take rd.length)) ) [some 4, some 5] kr kr kr (hn_of 0 kr ⟨bk_ren kr kr, bk_flat (tab ivC (outL (c.length : Int) (outL (c.length : Int) (codeL c c.length) (od.take od.length)) (rd.take rd.length))) kr (tab_plain ivC_pl _) rfl, True.intro⟩) kr ?_
              rintro v9 k9 ⟨rfl, rfl⟩
              refine ⟨rfl, .tuple #[], kr, ?_⟩
              refine sd_run 8 ?_
              refine sd_run 39 ?_
              refine sd_end (.slice (some ⟨5, 0, none⟩) c.length (unk + 3)) hX kr kr kr (.slice (some ⟨3, 0, none⟩) c.length (unk + 3)) (hq [some ⟨(tab iiC c), 50, false⟩, some ⟨(tab inC od), 3, false⟩, some ⟨(tab inC rd), 3, false⟩, some ⟨(tab ivC (ofL c od rd (-1) (-1))), 40, false⟩]) (emOf [some 0, some 1, some 2, some 5]) (sub_of kr kr ⟨bk_flat (tab iiC c) kr (tab_plain iiC_pl _) rfl, bk_flat (tab inC od) kr (tab_plain inC_pl _) rfl, bk_flat (tab inC rd) kr (tab_plain inC_pl _) rfl, bk_flat (tab ivC (outL (c.length : Int) (outL (c.length : Int) (codeL c c.length) (od.take od.length)) (rd.take rd.length))) kr (tab_plain ivC_pl _) (congrArg (tab ivC) (by unfold ofL; simp only [List.take_length, useI_nat, useI_no (show (-1 : Int) < 0 by decide)])), True.intro⟩) (rn2_sound _ _ kr) ⟨rfl, rfl⟩
            · skip
              obtain ⟨qtg1, qtg2⟩ := valB_iff.1 htg
              obtain ⟨TG, rfl⟩ := Int.eq_ofNat_of_zero_le qtg1
              refine sd_run 25 ?_
              refine sd_callp 82 21 #[.int .i64 (-1), .int .i64 ((c.length : Nat) : Int), .pointer (some ⟨4, 0, none⟩)] (use_no (t := ((c.length : Nat) : Int)) (m := c.length) (l := outL (c.length : Int) (outL (c.length : Int) (codeL c c.length) (od.take od.length)) (rd.take rd.length)) ) [some 4, some 5] kr kr kr (hn_of 0 kr ⟨bk_ren kr kr, bk_flat (tab ivC (outL (c.length : Int) (outL (c.length : Int) (codeL c c.length) (od.take od.length)) (rd.take rd.length))) kr (tab_plain ivC_pl _) rfl, True.intro⟩) kr ?_
              rintro v9 k9 ⟨rfl, rfl⟩
              refine ⟨rfl, .tuple #[], kr, ?_⟩
              refine sd_run 8 ?_
              refine sd_run 25 ?_
              refine sd_call 82 21 #[.int .i64 ((TG : Nat) : Int), .int .i64 ((c.length : Nat) : Int), .pointer (some ⟨4, 0, none⟩)] (use_s (N := TG) (t := ((c.length : Nat) : Int)) (m := c.length) (l := outL (c.length : Int) (outL (c.length : Int) (codeL c c.length) (od.take od.length)) (rd.take rd.length)) (by simp) (by omega) (by omega)) (emOf [some 4, some 5]) kr kr kr (hn_of 0 kr ⟨bk_ren kr kr, bk_flat (tab ivC (outL (c.length : Int) (outL (c.length : Int) (codeL c c.length) (od.take od.length)) (rd.take rd.length))) kr (tab_plain ivC_pl _) rfl, True.intro⟩) (rnG_sound rn2_sound _ _ kr) ?_
              rintro v9 k9 ⟨rfl, rfl⟩
              refine ⟨.tuple #[], hq [some ⟨(tab iiC c), 50, false⟩, some ⟨(tab inC od), 3, false⟩, some ⟨(tab inC rd), 3, false⟩, some ⟨[Value.slice (some ⟨0, 0, none⟩) c.length (unk + 5), .int .i64 nd, .int .i64 nr, .int .i64 hd, .int .i64 hr, .slice (some ⟨1, 0, none⟩) od.length (unk + 1), .slice (some ⟨2, 0, none⟩) rd.length (unk + 1), .int .i64 (-1), .int .u32 nx, .int .i64 ((TG : Nat) : Int), .int .i64 br, .int .u32 tk, .int .i64 ct, .int .i64 ((c.length : Nat) : Int)], 29, false⟩, some ⟨[Value.slice (some ⟨5, 0, none⟩) c.length (unk + 3)], 31, false⟩, some ⟨(tab ivC (usel ((c.length : Nat) : Int) (outL (c.length : Int) (outL (c.length : Int) (codeL c c.length) (od.take od.length)) (rd.take rd.length)) TG)), 40, false⟩, some ⟨[Value.int .i64 (-1), .int .i64 ((TG : Nat) : Int)], 3, false⟩, some ⟨[Value.slice (some ⟨1, 0, none⟩) od.length (unk + 1), .slice (some ⟨2, 0, none⟩) rd.length (unk + 1), .slice (some ⟨6, 0, none⟩) 2 2], 22, false⟩], glue_of kr kr ⟨cov_old kr kr, cov_old kr kr, cov_old kr kr, cov_old kr kr, cov_same 0 (hn_of 0 kr ⟨bk_ren kr kr, bk_flat (tab ivC (outL (c.length : Int) (outL (c.length : Int) (codeL c c.length) (od.take od.length)) (rd.take rd.length))) kr (tab_plain ivC_pl _) rfl, True.intro⟩) kr kr kr kr kr, cov_flat 1 kr kr (tab_plain ivC_pl _), cov_old kr kr, cov_old kr kr, True.intro⟩, rn2_sound _ _ kr, ?_⟩
              refine sd_run 8 ?_
              refine sd_run 39 ?_
              refine sd_end (.slice (some ⟨5, 0, none⟩) c.length (unk + 3)) hX kr kr kr (.slice (some ⟨3, 0, none⟩) c.length (unk + 3)) (hq [some ⟨(tab iiC c), 50, false⟩, some ⟨(tab inC od), 3, false⟩, some ⟨(tab inC rd), 3, false⟩, some ⟨(tab ivC (ofL c od rd (-1) ((TG : Nat) : Int))), 40, false⟩]) (emOf [some 0, some 1, some 2, some 5]) (sub_of kr kr ⟨bk_flat (tab iiC c) kr (tab_plain iiC_pl _) rfl, bk_flat (tab inC od) kr (tab_plain inC_pl _) rfl, bk_flat (tab inC rd) kr (tab_plain inC_pl _) rfl, bk_flat (tab ivC (usel ((c.length : Nat) : Int) (outL (c.length : Int) (outL (c.length : Int) (codeL c c.length) (od.take od.length)) (rd.take rd.length)) TG)) kr (tab_plain ivC_pl _) (congrArg (tab ivC) (by unfold ofL; simp only [List.take_length, useI_nat, useI_no (show (-1 : Int) < 0 by decide)])), True.intro⟩) (rn2_sound _ _ kr) ⟨rfl, rfl⟩
          · skip
            obtain ⟨qfl1, qfl2⟩ := valB_iff.1 hfl
            obtain ⟨FL, rfl⟩ := Int.eq_ofNat_of_zero_le qfl1
            rcases hR.tg_ with htg | htg
            · skip
              subst htg
              refine sd_run 25 ?_
              refine sd_call 82 21 #[.int .i64 ((FL : Nat) : Int), .int .i64 ((c.length : Nat) : Int), .pointer (some ⟨4, 0, none⟩)] (use_s (N := FL) (t := ((c.length : Nat) : Int)) (m := c.length) (l := outL (c.length : Int) (outL (c.length : Int) (codeL c c.length) (od.take od.length)) (rd.take rd.length)) (by simp) (by omega) (by omega)) (emOf [some 4, some 5]) kr kr kr (hn_of 0 kr ⟨bk_ren kr kr, bk_flat (tab ivC (outL (c.length : Int) (outL (c.length : Int) (codeL c c.length) (od.take od.length)) (rd.take rd.length))) kr (tab_plain ivC_pl _) rfl, True.intro⟩) (rnG_sound rn2_sound _ _ kr) ?_
              rintro v9 k9 ⟨rfl, rfl⟩
              refine ⟨.tuple #[], hq [some ⟨(tab iiC c), 50, false⟩, some ⟨(tab inC od), 3, false⟩, some ⟨(tab inC rd), 3, false⟩, some ⟨[Value.slice (some ⟨0, 0, none⟩) c.length (unk + 5), .int .i64 nd, .int .i64 nr, .int .i64 hd, .int .i64 hr, .slice (some ⟨1, 0, none⟩) od.length (unk + 1), .slice (some ⟨2, 0, none⟩) rd.length (unk + 1), .int .i64 ((FL : Nat) : Int), .int .u32 nx, .int .i64 (-1), .int .i64 br, .int .u32 tk, .int .i64 ct, .int .i64 ((c.length : Nat) : Int)], 29, false⟩, some ⟨[Value.slice (some ⟨5, 0, none⟩) c.length (unk + 3)], 31, false⟩, some ⟨(tab ivC (usel ((c.length : Nat) : Int) (outL (c.length : Int) (outL (c.length : Int) (codeL c c.length) (od.take od.length)) (rd.take rd.length)) FL)), 40, false⟩, some ⟨[Value.int .i64 ((FL : Nat) : Int), .int .i64 (-1)], 3, false⟩, some ⟨[Value.slice (some ⟨1, 0, none⟩) od.length (unk + 1), .slice (some ⟨2, 0, none⟩) rd.length (unk + 1), .slice (some ⟨6, 0, none⟩) 2 2], 22, false⟩], glue_of kr kr ⟨cov_old kr kr, cov_old kr kr, cov_old kr kr, cov_old kr kr, cov_same 0 (hn_of 0 kr ⟨bk_ren kr kr, bk_flat (tab ivC (outL (c.length : Int) (outL (c.length : Int) (codeL c c.length) (od.take od.length)) (rd.take rd.length))) kr (tab_plain ivC_pl _) rfl, True.intro⟩) kr kr kr kr kr, cov_flat 1 kr kr (tab_plain ivC_pl _), cov_old kr kr, cov_old kr kr, True.intro⟩, rn2_sound _ _ kr, ?_⟩
              refine sd_run 8 ?_
              refine sd_run 25 ?_
              refine sd_callp 82 21 #[.int .i64 (-1), .int .i64 ((c.length : Nat) : Int), .pointer (some ⟨4, 0, none⟩)] (use_no (t := ((c.length : Nat) : Int)) (m := c.length) (l := usel ((c.length : Nat) : Int) (outL (c.length : Int) (outL (c.length : Int) (codeL c c.length) (od.take od.length)) (rd.take rd.length)) FL) ) [some 4, some 5] kr kr kr (hn_of 0 kr ⟨bk_ren kr kr, bk_flat (tab ivC (usel ((c.length : Nat) : Int) (outL (c.length : Int) (outL (c.length : Int) (codeL c c.length) (od.take od.length)) (rd.take rd.length)) FL)) kr (tab_plain ivC_pl _) rfl, True.intro⟩) kr ?_
              rintro v9 k9 ⟨rfl, rfl⟩
              refine ⟨rfl, .tuple #[], kr, ?_⟩
              refine sd_run 8 ?_
              refine sd_run 39 ?_
              refine sd_end (.slice (some ⟨5, 0, none⟩) c.length (unk + 3)) hX kr kr kr (.slice (some ⟨3, 0, none⟩) c.length (unk + 3)) (hq [some ⟨(tab iiC c), 50, false⟩, some ⟨(tab inC od), 3, false⟩, some ⟨(tab inC rd), 3, false⟩, some ⟨(tab ivC (ofL c od rd ((FL : Nat) : Int) (-1))), 40, false⟩]) (emOf [some 0, some 1, some 2, some 5]) (sub_of kr kr ⟨bk_flat (tab iiC c) kr (tab_plain iiC_pl _) rfl, bk_flat (tab inC od) kr (tab_plain inC_pl _) rfl, bk_flat (tab inC rd) kr (tab_plain inC_pl _) rfl, bk_flat (tab ivC (usel ((c.length : Nat) : Int) (outL (c.length : Int) (outL (c.length : Int) (codeL c c.length) (od.take od.length)) (rd.take rd.length)) FL)) kr (tab_plain ivC_pl _) (congrArg (tab ivC) (by unfold ofL; simp only [List.take_length, useI_nat, useI_no (show (-1 : Int) < 0 by decide)])), True.intro⟩) (rn2_sound _ _ kr) ⟨rfl, rfl⟩
            · skip
              obtain ⟨qtg1, qtg2⟩ := valB_iff.1 htg
              obtain ⟨TG, rfl⟩ := Int.eq_ofNat_of_zero_le qtg1
              refine sd_run 25 ?_
              refine sd_call 82 21 #[.int .i64 ((FL : Nat) : Int), .int .i64 ((c.length : Nat) : Int), .pointer (some ⟨4, 0, none⟩)] (use_s (N := FL) (t := ((c.length : Nat) : Int)) (m := c.length) (l := outL (c.length : Int) (outL (c.length : Int) (codeL c c.length) (od.take od.length)) (rd.take rd.length)) (by simp) (by omega) (by omega)) (emOf [some 4, some 5]) kr kr kr (hn_of 0 kr ⟨bk_ren kr kr, bk_flat (tab ivC (outL (c.length : Int) (outL (c.length : Int) (codeL c c.length) (od.take od.length)) (rd.take rd.length))) kr (tab_plain ivC_pl _) rfl, True.intro⟩) (rnG_sound rn2_sound _ _ kr) ?_
              rintro v9 k9 ⟨rfl, rfl⟩
              refine ⟨.tuple #[], hq [some ⟨(tab iiC c), 50, false⟩, some ⟨(tab inC od), 3, false⟩, some ⟨(tab inC rd), 3, false⟩, some ⟨[Value.slice (some ⟨0, 0, none⟩) c.length (unk + 5), .int .i64 nd, .int .i64 nr, .int .i64 hd, .int .i64 hr, .slice (some ⟨1, 0, none⟩) od.length (unk + 1), .slice (some ⟨2, 0, none⟩) rd.length (unk + 1), .int .i64 ((FL : Nat) : Int), .int .u32 nx, .int .i64 ((TG : Nat) : Int), .int .i64 br, .int .u32 tk, .int .i64 ct, .int .i64 ((c.length : Nat) : Int)], 29, false⟩, some ⟨[Value.slice (some ⟨5, 0, none⟩) c.length (unk + 3)], 31, false⟩, some ⟨(tab ivC (usel ((c.length : Nat) : Int) (outL (c.length : Int) (outL (c.length : Int) (codeL c c.length) (od.take od.length)) (rd.take rd.length)) FL)), 40, false⟩, some ⟨[Value.int .i64 ((FL : Nat) : Int), .int .i64 ((TG : Nat) : Int)], 3, false⟩, some ⟨[Value.slice (some ⟨1, 0, none⟩) od.length (unk + 1), .slice (some ⟨2, 0, none⟩) rd.length (unk + 1), .slice (some ⟨6, 0, none⟩) 2 2], 22, false⟩], glue_of kr kr ⟨cov_old kr kr, cov_old kr kr, cov_old kr kr, cov_old kr kr, cov_same 0 (hn_of 0 kr ⟨bk_ren kr kr, bk_flat (tab ivC (outL (c.length : Int) (outL (c.length : Int) (codeL c c.length) (od.take od.length)) (rd.take rd.length))) kr (tab_plain ivC_pl _) rfl, True.intro⟩) kr kr kr kr kr, cov_flat 1 kr kr (tab_plain ivC_pl _), cov_old kr kr, cov_old kr kr, True.intro⟩, rn2_sound _ _ kr, ?_⟩
              refine sd_run 8 ?_
              refine sd_run 25 ?_
              refine sd_call 82 21 #[.int .i64 ((TG : Nat) : Int), .int .i64 ((c.length : Nat) : Int), .pointer (some ⟨4, 0, none⟩)] (use_s (N := TG) (t := ((c.length : Nat) : Int)) (m := c.length) (l := usel ((c.length : Nat) : Int) (outL (c.length : Int) (outL (c.length : Int) (codeL c c.length) (od.take od.length)) (rd.take rd.length)) FL) (by simp) (by omega) (by omega)) (emOf [some 4, some 5]) kr kr kr (hn_of 0 kr ⟨bk_ren kr kr, bk_flat (tab ivC (usel ((c.length : Nat) : Int) (outL (c.length : Int) (outL (c.length : Int) (codeL c c.length) (od.take od.length)) (rd.take rd.length)) FL)) kr (tab_plain ivC_pl _) rfl, True.intro⟩) (rnG_sound rn2_sound _ _ kr) ?_
              rintro v9 k9 ⟨rfl, rfl⟩
              refine ⟨.tuple #[], hq [some ⟨(tab iiC c), 50, false⟩, some ⟨(tab inC od), 3, false⟩, some ⟨(tab inC rd), 3, false⟩, some ⟨[Value.slice (some ⟨0, 0, none⟩) c.length (unk + 5), .int .i64 nd, .int .i64 nr, .int .i64 hd, .int .i64 hr, .slice (some ⟨1, 0, none⟩) od.length (unk + 1), .slice (some ⟨2, 0, none⟩) rd.length (unk + 1), .int .i64 ((FL : Nat) : Int), .int .u32 nx, .int .i64 ((TG : Nat) : Int), .int .i64 br, .int .u32 tk, .int .i64 ct, .int .i64 ((c.length : Nat) : Int)], 29, false⟩, some ⟨[Value.slice (some ⟨5, 0, none⟩) c.length (unk + 3)], 31, false⟩, some ⟨(tab ivC (usel ((c.length : Nat) : Int) (usel ((c.length : Nat) : Int) (outL (c.length : Int) (outL (c.length : Int) (codeL c c.length) (od.take od.length)) (rd.take rd.length)) FL) TG)), 40, false⟩, some ⟨[Value.int .i64 ((FL : Nat) : Int), .int .i64 ((TG : Nat) : Int)], 3, false⟩, some ⟨[Value.slice (some ⟨1, 0, none⟩) od.length (unk + 1), .slice (some ⟨2, 0, none⟩) rd.length (unk + 1), .slice (some ⟨6, 0, none⟩) 2 2], 22, false⟩], glue_of kr kr ⟨cov_old kr kr, cov_old kr kr, cov_old kr kr, cov_old kr kr, cov_same 0 (hn_of 0 kr ⟨bk_ren kr kr, bk_flat (tab ivC (usel ((c.length : Nat) : Int) (outL (c.length : Int) (outL (c.length : Int) (codeL c c.length) (od.take od.length)) (rd.take rd.length)) FL)) kr (tab_plain ivC_pl _) rfl, True.intro⟩) kr kr kr kr kr, cov_flat 1 kr kr (tab_plain ivC_pl _), cov_old kr kr, cov_old kr kr, True.intro⟩, rn2_sound _ _ kr, ?_⟩
              refine sd_run 8 ?_
              refine sd_run 39 ?_
              refine sd_end (.slice (some ⟨5, 0, none⟩) c.length (unk + 3)) hX kr kr kr (.slice (some ⟨3, 0, none⟩) c.length (unk + 3)) (hq [some ⟨(tab iiC c), 50, false⟩, some ⟨(tab inC od), 3, false⟩, some ⟨(tab inC rd), 3, false⟩, some ⟨(tab ivC (ofL c od rd ((FL : Nat) : Int) ((TG : Nat) : Int))), 40, false⟩]) (emOf [some 0, some 1, some 2, some 5]) (sub_of kr kr ⟨bk_flat (tab iiC c) kr (tab_plain iiC_pl _) rfl, bk_flat (tab inC od) kr (tab_plain inC_pl _) rfl, bk_flat (tab inC rd) kr (tab_plain inC_pl _) rfl, bk_flat (tab ivC (usel ((c.length : Nat) : Int) (usel ((c.length : Nat) : Int) (outL (c.length : Int) (outL (c.length : Int) (codeL c c.length) (od.take od.length)) (rd.take rd.length)) FL) TG)) kr (tab_plain ivC_pl _) (congrArg (tab ivC) (by unfold ofL; simp only [List.take_length, useI_nat, useI_no (show (-1 : Int) < 0 by decide)])), True.intro⟩) (rn2_sound _ _ kr) ⟨rfl, rfl⟩
end Ls
end Go.Proofs.Ytahikechkggbfaa
