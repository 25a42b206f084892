/- Chapter 20: made. -/
import Derived.Test.YtahikechkggbfaaSg
namespace Go.Proofs.Ytahikechkggbfaa
open Go Go.Ev Go.RowKit Lm
set_option linter.unusedVariables false
set_option linter.unusedSimpArgs false
set_option maxRecDepth 100000
namespace Ls
noncomputable def f9b : Code := Try.f9.body.getD .skip
theorem f9_body : Try.f9.body = some f9b := by kernel_rfl
theorem f9_fn : T3.fn 9 = some Try.f9 := by kernel_rfl
theorem mkC_snoc {ops az bs : List Int} {k : Nat} {x : II} (h : mkI ops az bs k = x) : mkC ops az bs k ++ [x] = mkC ops az bs (k + 1) := by rw [mkC_succ, h]
theorem mkO_snoc {outs : List Int} {k j : Nat} {y : Int} (h : outs[j]? = some y) : mkO outs k j ++ [y % (k : Int)] = mkO outs k (j + 1) := by unfold mkO; rw [List.take_add_one, h]; simp
set_option maxHeartbeats 4000000 in
theorem made_s {ops az bs outs o : List Int} {c : List II} {fl f vs : Int} {wr : Bool} {n m : Nat} (hr1 : ∀ x ∈ ops, i64B x = true) (hr2 : ∀ x ∈ az, i64B x = true) (hr3 : ∀ x ∈ bs, i64B x = true) (hr4 : ∀ x ∈ outs, i64B x = true) (hf : i64B fl = true) (hc : c = mkC ops az bs (mkN ops az bs)) (ho : o = mkO outs (mkN ops az bs) (mkM outs (mkN ops az bs))) (hff : f = mkF fl (mkN ops az bs)) (hv : vs = mkW wr (mkN ops az bs)) (hn : n = c.length) (hm : m = o.length) : SCall Try.prog T3 9 #[.agg #[.slice (some ⟨0, 0, none⟩) ops.length (unk + 1), .slice (some ⟨1, 0, none⟩) az.length (unk + 1), .slice (some ⟨2, 0, none⟩) bs.length (unk + 1), .slice (some ⟨3, 0, none⟩) outs.length (unk + 1), .int .i64 fl, .bool wr]] (hq [some ⟨(tab inC ops), 3, true⟩, some ⟨(tab inC az), 3, true⟩, some ⟨(tab inC bs), 3, true⟩, some ⟨(tab inC outs), 3, true⟩]) fun v h => v = .agg #[.slice (some ⟨4, 0, none⟩) n (unk + 5), .int .i64 0, .int .i64 0, .int .i64 0, .int .i64 0, .slice (some ⟨5, 0, none⟩) m (unk + 1), .slice none 0 0, .int .i64 f, .int .u32 0, .int .i64 (-1), .int .i64 0, .int .u32 0, .int .i64 1, .int .i64 vs] ∧ h = hq [some ⟨(tab inC ops), 3, true⟩, some ⟨(tab inC az), 3, true⟩, some ⟨(tab inC bs), 3, true⟩, some ⟨(tab inC outs), 3, true⟩, some ⟨(tab iiC c), 50, false⟩, some ⟨(tab inC o), 3, false⟩] := by
  refine scall_sd 138 _ 4 (by kernel_rfl) f9_fn f9_body rfl rfl rfl fun X hX => ?_
  refine sd_run 20 ?_
  obtain ⟨N, hN⟩ : ∃ N, N = min (min ops.length az.length) (min bs.length 30) := ⟨_, rfl⟩
  refine sd_loop 138 (cl (cl (cr (cl (cr (cr f9b)))))) [.blk 0, .next (cr (cr (cr f9b)))] (by kernel_rfl) (by kernel_rfl) (by kernel_rfl) (fun m9 s9 => ∃ (k : Nat), m9 = N - k ∧ (k ≤ N) ∧ s9 = ⟨tmL [(1, .pointer (some ⟨4, 0, none⟩)), (2, .pointer (some ⟨5, 0, none⟩)), (3, .pointer (some ⟨6, 0, none⟩)), (4, .int .i64 ((k : Nat) : Int))], hq [some ⟨(tab inC ops), 3, true⟩, some ⟨(tab inC az), 3, true⟩, some ⟨(tab inC bs), 3, true⟩, some ⟨(tab inC outs), 3, true⟩, some ⟨[Value.slice (some ⟨0, 0, none⟩) ops.length (unk + 1), .slice (some ⟨1, 0, none⟩) az.length (unk + 1), .slice (some ⟨2, 0, none⟩) bs.length (unk + 1), .slice (some ⟨3, 0, none⟩) outs.length (unk + 1), .int .i64 fl, .bool wr], 24, false⟩, some ⟨[Value.slice none 0 0, .int .i64 0, .int .i64 0, .int .i64 0, .int .i64 0, .slice none 0 0, .slice none 0 0, .int .i64 0, .int .u32 0, .int .i64 0, .int .i64 0, .int .u32 0, .int .i64 0, .int .i64 0], 29, false⟩, some ⟨[Value.slice (some ⟨7, 0, none⟩) k (unk + 5), .int .i64 0, .int .i64 0, .int .i64 0, .int .i64 0, .slice none 0 0, .slice none 0 0, .int .i64 (-1), .int .u32 0, .int .i64 (-1), .int .i64 0, .int .u32 0, .int .i64 1, .int .i64 0], 29, false⟩, some ⟨(tab iiC (mkC ops az bs k)), 50, false⟩]⟩) (N - 0) _ (emOf [some 0, some 1, some 2, some 3, some 4, some 5, some 6, none]) hX ⟨0, rfl, (by omega), rfl⟩ ⟨sub_of (by kernel_rfl) (by kernel_rfl) ⟨bk_flat (tab inC ops) (by kernel_rfl) (tab_plain inC_pl _) rfl, bk_flat (tab inC az) (by kernel_rfl) (tab_plain inC_pl _) rfl, bk_flat (tab inC bs) (by kernel_rfl) (tab_plain inC_pl _) rfl, bk_flat (tab inC outs) (by kernel_rfl) (tab_plain inC_pl _) rfl, bk_ren (by kernel_rfl) (by kernel_rfl), bk_ren (by kernel_rfl) (by kernel_rfl), bk_ren (by kernel_rfl) (by kernel_rfl), rfl, True.intro⟩, te_of (by kernel_rfl) (by kernel_rfl)⟩ (by kernel_rfl) ?_
  rintro m9 s9 ⟨k, rfl, i1_0, rfl⟩ R1_ hR1_
  by_cases hlt : k < N
  · skip
    obtain ⟨a1, ha1⟩ : ∃ x_, (ops)[k]? = some x_ := ⟨_, List.getElem?_eq_getElem (by omega)⟩
    have ia1 := hr1 _ (List.mem_of_getElem? ha1)
    simp only [i64B, Bool.and_eq_true, decide_eq_true_eq] at ia1
    have ea1 := getD_at ha1
    obtain ⟨a2, ha2⟩ : ∃ x_, (az)[k]? = some x_ := ⟨_, List.getElem?_eq_getElem (by omega)⟩
    have ia2 := hr2 _ (List.mem_of_getElem? ha2)
    simp only [i64B, Bool.and_eq_true, decide_eq_true_eq] at ia2
    have ea2 := getD_at ha2
    obtain ⟨a3, ha3⟩ : ∃ x_, (bs)[k]? = some x_ := ⟨_, List.getElem?_eq_getElem (by omega)⟩
    have ia3 := hr3 _ (List.mem_of_getElem? ha3)
    simp only [i64B, Bool.and_eq_true, decide_eq_true_eq] at ia3
    have ea3 := getD_at ha3
    by_cases hk0 : k = 0
    · skip
      have hmk : mkI ops az bs k = (0, (k : Int), 0, 0, (k : Int)) := by unfold mkI; rw [ea1, ea2, ea3]; rw [if_neg (by omega)]
      refine sd_run 8 ?_
      refine sd_see 12 (.bool true) (see_bool (by kernel_rfl) ((decide_eq_true (by omega)) : ((decide (((k : Nat) : Int) < ((ops.length : Nat) : Int)))) = true)) ?_
      refine sd_run 6 ?_
      refine sd_see 18 (.bool true) (see_bool (by kernel_rfl) ((decide_eq_true (by omega)) : ((decide (((k : Nat) : Int) < ((az.length : Nat) : Int)))) = true)) ?_
      refine sd_run 7 ?_
      refine sd_see 25 (.bool true) (see_bool (by kernel_rfl) ((decide_eq_true (by omega)) : ((decide (((k : Nat) : Int) < ((bs.length : Nat) : Int)))) = true)) ?_
      refine sd_run 4 ?_
      refine sd_see 29 (.bool true) (see_bool (by kernel_rfl) ((decide_eq_true (by omega)) : ((decide (((k : Nat) : Int) < 30))) = true)) ?_
      refine sd_run 13 ?_
      refine sd_see 35 (.int .u32 ((k : Nat) : Int)) (see_int (x := IntKind.u32.wrap ((k : Nat) : Int)) (by kernel_rfl) (wu32 rfl (by omega) (by omega))) ?_
      refine sd_run 10 ?_
      refine sd_see 38 (.bool false) (see_bool (by kernel_rfl) ((decide_eq_false (by omega)) : ((decide (((k : Nat) : Int) > 0))) = false)) ?_
      refine sd_run 19 ?_
      refine sd_grow 79 26 26 50 4 39 7 k 1 10 (.slice (some ⟨9, 0, none⟩) 1 1) (tab iiC (mkC ops az bs k)) [Value.int .i64 0, .int .i64 ((k : Nat) : Int), .int .i64 0, .int .i64 0, .int .u32 ((k : Nat) : Int)] (tab iiC (mkC ops az bs k ++ [(0, ((k : Nat) : Int), 0, 0, ((k : Nat) : Int))])) (by kernel_rfl) (by kernel_rfl) (by kernel_rfl) (by kernel_rfl) (by kernel_rfl) ((tab_len iiC_len _).trans (by rw [mkC_len])) (by kernel_rfl) (by kernel_rfl) (by decide) (by kernel_rfl) (by omega) (by kernel_rfl) (tab_snoc (mkC ops az bs k) (0, ((k : Nat) : Int), 0, 0, ((k : Nat) : Int))) ?_
      refine sd_run 8 ?_
      refine sd_see 32 (.int .i64 ((k + 1 : Nat) : Int)) (see_int (x := (IntKind.i64.wrap (((k : Nat) : Int) + 1))) (by kernel_rfl) (w64 (by omega) (by omega) (by omega))) ?_
      refine sd_run 2 ?_
      refine sd_inv R1_ (by kernel_rfl) (hR1_ _ (N - (k + 1)) _ (emOf [some 0, some 1, some 2, some 3, some 4, some 5, some 6, some 10]) (by omega) ⟨k + 1, rfl, (by omega), rfl⟩ ⟨sub_of (by kernel_rfl) (by kernel_rfl) ⟨bk_flat (tab inC ops) (by kernel_rfl) (tab_plain inC_pl _) rfl, bk_flat (tab inC az) (by kernel_rfl) (tab_plain inC_pl _) rfl, bk_flat (tab inC bs) (by kernel_rfl) (tab_plain inC_pl _) rfl, bk_flat (tab inC outs) (by kernel_rfl) (tab_plain inC_pl _) rfl, bk_ren (by kernel_rfl) (by kernel_rfl), bk_ren (by kernel_rfl) (by kernel_rfl), bk_ren (by kernel_rfl) (by kernel_rfl), bk_flat (tab iiC (mkC ops az bs k ++ [(0, ((k : Nat) : Int), 0, 0, ((k : Nat) : Int))])) (by kernel_rfl) (tab_plain iiC_pl _) (congrArg (tab iiC) (mkC_snoc hmk)), True.intro⟩, te_of (by kernel_rfl) (by kernel_rfl)⟩ (by kernel_rfl))
    · skip
      by_cases ht : 0 < Int.tmod a1 3
      · skip
        rcases (by omega : a1 % 2 = 0 ∨ a1 % 2 = 1) with hp | hp
        · skip
          have hmk : mkI ops az bs k = (3, (k : Int), a2 % (k : Int), a3 % (k : Int), 20) := by unfold mkI; rw [ea1, ea2, ea3]; rw [if_pos (by omega), hp]; rfl
          refine sd_run 8 ?_
          refine sd_see 12 (.bool true) (see_bool (by kernel_rfl) ((decide_eq_true (by omega)) : ((decide (((k : Nat) : Int) < ((ops.length : Nat) : Int)))) = true)) ?_
          refine sd_run 6 ?_
          refine sd_see 18 (.bool true) (see_bool (by kernel_rfl) ((decide_eq_true (by omega)) : ((decide (((k : Nat) : Int) < ((az.length : Nat) : Int)))) = true)) ?_
          refine sd_run 7 ?_
          refine sd_see 25 (.bool true) (see_bool (by kernel_rfl) ((decide_eq_true (by omega)) : ((decide (((k : Nat) : Int) < ((bs.length : Nat) : Int)))) = true)) ?_
          refine sd_run 4 ?_
          refine sd_see 29 (.bool true) (see_bool (by kernel_rfl) ((decide_eq_true (by omega)) : ((decide (((k : Nat) : Int) < 30))) = true)) ?_
          refine sd_run 13 ?_
          refine sd_see 35 (.int .u32 ((k : Nat) : Int)) (see_int (x := IntKind.u32.wrap ((k : Nat) : Int)) (by kernel_rfl) (wu32 rfl (by omega) (by omega))) ?_
          refine sd_run 10 ?_
          refine sd_see 38 (.bool true) (see_bool (by kernel_rfl) ((decide_eq_true (by omega)) : ((decide (((k : Nat) : Int) > 0))) = true)) ?_
          refine sd_run 4 ?_
          refine sd_ix 43 (.pointer (some ⟨0, 0 + k * 1, none⟩)) k ops.length (by kernel_rfl) (by kernel_rfl) (by kernel_rfl) (by omega) ?_
          refine sd_ld 44 (.int .i64 a1) 3 (.pointer (some ⟨0, 0 + k * 1, none⟩)) (by kernel_rfl) (by kernel_rfl) (by kernel_rfl) (ld_cell (l := ops) (e := 3) (ro := true) (k := k) (j := 0) inC_len (by kernel_rfl) (by kernel_rfl) (by kernel_rfl) ha1 rfl) ?_
          refine sd_run 2 ?_
          refine sd_see 46 (.bool true) (see_bool (by kernel_rfl) ((decide_eq_true ht) : ((decide (((Int.tmod a1 3) : Int) > 0))) = true)) ?_
          refine sd_run 4 ?_
          refine sd_drawP (by kernel_rfl) ?_
          refine svp_go 4 ?_
          refine svp_line ?_
          refine sv_ix 52 (.pointer (some ⟨0, 0 + k * 1, none⟩)) k ops.length (by kernel_rfl) (by kernel_rfl) (by kernel_rfl) (by omega) (by kernel_rfl) ?_
          refine sv_ld 53 (.int .i64 a1) 3 (.pointer (some ⟨0, 0 + k * 1, none⟩)) (by kernel_rfl) (by kernel_rfl) (by kernel_rfl) (ld_cell (l := ops) (e := 3) (ro := true) (k := k) (j := 0) inC_len (by kernel_rfl) (by kernel_rfl) (by kernel_rfl) ha1 rfl) (by kernel_rfl) ?_
          refine sv_ask 54 (.int .i64 (0 + a1 % (1 - 0 + 1))) 12 #[.int .i64 a1, .int .i64 0, .int .i64 1] (by kernel_rfl) (by kernel_rfl) (by kernel_rfl) (orc12 a1 0 1 (by simp only [inB, Bool.and_eq_true, decide_eq_true_eq]; omega)) ?_
          refine sv_see 54 (.int .i64 0) (see_int (x := (0 + a1 % (1 - 0 + 1))) (by kernel_rfl) (by omega)) ?_
          refine sv_run 1 ?_
          refine sv_rd 56 (.int .i64 3) 3 9 0 (by kernel_rfl) (by kernel_rfl) (by kernel_rfl) (by kernel_rfl) (veq_int _ _) (by kernel_rfl) ?_
          refine sv_run 2 ?_
          refine sv_rd 59 (.slice (some ⟨1, 0, none⟩) az.length (unk + 1)) 22 4 1 (by kernel_rfl) (by kernel_rfl) (by kernel_rfl) (by kernel_rfl) (veq_slice _ _ _) (by kernel_rfl) ?_
          refine sv_run 1 ?_
          refine sv_ix 61 (.pointer (some ⟨1, 0 + k * 1, none⟩)) k az.length (by kernel_rfl) (by kernel_rfl) (by kernel_rfl) (by omega) (by kernel_rfl) ?_
          refine sv_rd 62 (.int .i64 a2) 3 1 (0 + k * 1) (by kernel_rfl) (by kernel_rfl) (by kernel_rfl) (ld_cell (l := az) (e := 3) (ro := true) (k := k) (j := 0) inC_len (by kernel_rfl) (by kernel_rfl) (by kernel_rfl) ha2 rfl) (veq_int _ _) (by kernel_rfl) ?_
          refine sv_run 2 ?_
          refine sv_see 64 (.int .i64 (((k : Nat) : Int) - 1)) (see_int (x := (IntKind.i64.wrap (((k : Nat) : Int) - 1))) (by kernel_rfl) (w64 (by omega) (by omega) (by omega))) ?_
          refine sv_ask 65 (.int .i64 (0 + a2 % ((((k : Nat) : Int) - 1) - 0 + 1))) 12 #[.int .i64 a2, .int .i64 0, .int .i64 (((k : Nat) : Int) - 1)] (by kernel_rfl) (by kernel_rfl) (by kernel_rfl) (orc12 a2 0 (((k : Nat) : Int) - 1) (by simp only [inB, Bool.and_eq_true, decide_eq_true_eq]; omega)) ?_
          refine sv_see 65 (.int .i64 (a2 % ((k : Nat) : Int))) (see_int (x := (0 + a2 % ((((k : Nat) : Int) - 1) - 0 + 1))) (by kernel_rfl) (by rw [show ((((k : Nat) : Int) - 1) - 0 + 1 : Int) = ((k : Nat) : Int) by omega]; omega)) ?_
          refine sv_run 1 ?_
          refine sv_rd 67 (.slice (some ⟨2, 0, none⟩) bs.length (unk + 1)) 22 4 2 (by kernel_rfl) (by kernel_rfl) (by kernel_rfl) (by kernel_rfl) (veq_slice _ _ _) (by kernel_rfl) ?_
          refine sv_run 1 ?_
          refine sv_ix 69 (.pointer (some ⟨2, 0 + k * 1, none⟩)) k bs.length (by kernel_rfl) (by kernel_rfl) (by kernel_rfl) (by omega) (by kernel_rfl) ?_
          refine sv_rd 70 (.int .i64 a3) 3 2 (0 + k * 1) (by kernel_rfl) (by kernel_rfl) (by kernel_rfl) (ld_cell (l := bs) (e := 3) (ro := true) (k := k) (j := 0) inC_len (by kernel_rfl) (by kernel_rfl) (by kernel_rfl) ha3 rfl) (veq_int _ _) (by kernel_rfl) ?_
          refine sv_run 2 ?_
          refine sv_see 72 (.int .i64 (((k : Nat) : Int) - 1)) (see_int (x := (IntKind.i64.wrap (((k : Nat) : Int) - 1))) (by kernel_rfl) (w64 (by omega) (by omega) (by omega))) ?_
          refine sv_ask 73 (.int .i64 (0 + a3 % ((((k : Nat) : Int) - 1) - 0 + 1))) 12 #[.int .i64 a3, .int .i64 0, .int .i64 (((k : Nat) : Int) - 1)] (by kernel_rfl) (by kernel_rfl) (by kernel_rfl) (orc12 a3 0 (((k : Nat) : Int) - 1) (by simp only [inB, Bool.and_eq_true, decide_eq_true_eq]; omega)) ?_
          refine sv_see 73 (.int .i64 (a3 % ((k : Nat) : Int))) (see_int (x := (0 + a3 % ((((k : Nat) : Int) - 1) - 0 + 1))) (by kernel_rfl) (by rw [show ((((k : Nat) : Int) - 1) - 0 + 1 : Int) = ((k : Nat) : Int) by omega]; omega)) ?_
          refine sv_run 2 ?_
          refine sv_end (by kernel_rfl) ?_
          refine sd_run 6 ?_
          refine sd_grow 79 26 26 50 4 39 7 k 1 11 (.slice (some ⟨10, 0, none⟩) 1 1) (tab iiC (mkC ops az bs k)) [Value.int .i64 3, .int .i64 ((k : Nat) : Int), .int .i64 (a2 % ((k : Nat) : Int)), .int .i64 (a3 % ((k : Nat) : Int)), .int .u32 20] (tab iiC (mkC ops az bs k ++ [(3, ((k : Nat) : Int), (a2 % ((k : Nat) : Int)), (a3 % ((k : Nat) : Int)), 20)])) (by kernel_rfl) (by kernel_rfl) (by kernel_rfl) (by kernel_rfl) (by kernel_rfl) ((tab_len iiC_len _).trans (by rw [mkC_len])) (by kernel_rfl) (by kernel_rfl) (by decide) (by kernel_rfl) (by omega) (by kernel_rfl) (tab_snoc (mkC ops az bs k) (3, ((k : Nat) : Int), (a2 % ((k : Nat) : Int)), (a3 % ((k : Nat) : Int)), 20)) ?_
          refine sd_run 8 ?_
          refine sd_see 32 (.int .i64 ((k + 1 : Nat) : Int)) (see_int (x := (IntKind.i64.wrap (((k : Nat) : Int) + 1))) (by kernel_rfl) (w64 (by omega) (by omega) (by omega))) ?_
          refine sd_run 2 ?_
          refine sd_inv R1_ (by kernel_rfl) (hR1_ _ (N - (k + 1)) _ (emOf [some 0, some 1, some 2, some 3, some 4, some 5, some 6, some 11]) (by omega) ⟨k + 1, rfl, (by omega), rfl⟩ ⟨sub_of (by kernel_rfl) (by kernel_rfl) ⟨bk_flat (tab inC ops) (by kernel_rfl) (tab_plain inC_pl _) rfl, bk_flat (tab inC az) (by kernel_rfl) (tab_plain inC_pl _) rfl, bk_flat (tab inC bs) (by kernel_rfl) (tab_plain inC_pl _) rfl, bk_flat (tab inC outs) (by kernel_rfl) (tab_plain inC_pl _) rfl, bk_ren (by kernel_rfl) (by kernel_rfl), bk_ren (by kernel_rfl) (by kernel_rfl), bk_ren (by kernel_rfl) (by kernel_rfl), bk_flat (tab iiC (mkC ops az bs k ++ [(3, ((k : Nat) : Int), (a2 % ((k : Nat) : Int)), (a3 % ((k : Nat) : Int)), 20)])) (by kernel_rfl) (tab_plain iiC_pl _) (congrArg (tab iiC) (mkC_snoc hmk)), True.intro⟩, te_of (by kernel_rfl) (by kernel_rfl)⟩ (by kernel_rfl))
        · skip
          have hmk : mkI ops az bs k = (4, (k : Int), a2 % (k : Int), a3 % (k : Int), 20) := by unfold mkI; rw [ea1, ea2, ea3]; rw [if_pos (by omega), hp]; rfl
          refine sd_run 8 ?_
          refine sd_see 12 (.bool true) (see_bool (by kernel_rfl) ((decide_eq_true (by omega)) : ((decide (((k : Nat) : Int) < ((ops.length : Nat) : Int)))) = true)) ?_
          refine sd_run 6 ?_
          refine sd_see 18 (.bool true) (see_bool (by kernel_rfl) ((decide_eq_true (by omega)) : ((decide (((k : Nat) : Int) < ((az.length : Nat) : Int)))) = true)) ?_
          refine sd_run 7 ?_
          refine sd_see 25 (.bool true) (see_bool (by kernel_rfl) ((decide_eq_true (by omega)) : ((decide (((k : Nat) : Int) < ((bs.length : Nat) : Int)))) = true)) ?_
          refine sd_run 4 ?_
          refine sd_see 29 (.bool true) (see_bool (by kernel_rfl) ((decide_eq_true (by omega)) : ((decide (((k : Nat) : Int) < 30))) = true)) ?_
          refine sd_run 13 ?_
          refine sd_see 35 (.int .u32 ((k : Nat) : Int)) (see_int (x := IntKind.u32.wrap ((k : Nat) : Int)) (by kernel_rfl) (wu32 rfl (by omega) (by omega))) ?_
          refine sd_run 10 ?_
          refine sd_see 38 (.bool true) (see_bool (by kernel_rfl) ((decide_eq_true (by omega)) : ((decide (((k : Nat) : Int) > 0))) = true)) ?_
          refine sd_run 4 ?_
          refine sd_ix 43 (.pointer (some ⟨0, 0 + k * 1, none⟩)) k ops.length (by kernel_rfl) (by kernel_rfl) (by kernel_rfl) (by omega) ?_
          refine sd_ld 44 (.int .i64 a1) 3 (.pointer (some ⟨0, 0 + k * 1, none⟩)) (by kernel_rfl) (by kernel_rfl) (by kernel_rfl) (ld_cell (l := ops) (e := 3) (ro := true) (k := k) (j := 0) inC_len (by kernel_rfl) (by kernel_rfl) (by kernel_rfl) ha1 rfl) ?_
          refine sd_run 2 ?_
          refine sd_see 46 (.bool true) (see_bool (by kernel_rfl) ((decide_eq_true ht) : ((decide (((Int.tmod a1 3) : Int) > 0))) = true)) ?_
          refine sd_run 4 ?_
          refine sd_drawP (by kernel_rfl) ?_
          refine svp_go 4 ?_
          refine svp_line ?_
          refine sv_ix 52 (.pointer (some ⟨0, 0 + k * 1, none⟩)) k ops.length (by kernel_rfl) (by kernel_rfl) (by kernel_rfl) (by omega) (by kernel_rfl) ?_
          refine sv_ld 53 (.int .i64 a1) 3 (.pointer (some ⟨0, 0 + k * 1, none⟩)) (by kernel_rfl) (by kernel_rfl) (by kernel_rfl) (ld_cell (l := ops) (e := 3) (ro := true) (k := k) (j := 0) inC_len (by kernel_rfl) (by kernel_rfl) (by kernel_rfl) ha1 rfl) (by kernel_rfl) ?_
          refine sv_ask 54 (.int .i64 (0 + a1 % (1 - 0 + 1))) 12 #[.int .i64 a1, .int .i64 0, .int .i64 1] (by kernel_rfl) (by kernel_rfl) (by kernel_rfl) (orc12 a1 0 1 (by simp only [inB, Bool.and_eq_true, decide_eq_true_eq]; omega)) ?_
          refine sv_see 54 (.int .i64 1) (see_int (x := (0 + a1 % (1 - 0 + 1))) (by kernel_rfl) (by omega)) ?_
          refine sv_run 1 ?_
          refine sv_rd 56 (.int .i64 4) 3 9 1 (by kernel_rfl) (by kernel_rfl) (by kernel_rfl) (by kernel_rfl) (veq_int _ _) (by kernel_rfl) ?_
          refine sv_run 2 ?_
          refine sv_rd 59 (.slice (some ⟨1, 0, none⟩) az.length (unk + 1)) 22 4 1 (by kernel_rfl) (by kernel_rfl) (by kernel_rfl) (by kernel_rfl) (veq_slice _ _ _) (by kernel_rfl) ?_
          refine sv_run 1 ?_
          refine sv_ix 61 (.pointer (some ⟨1, 0 + k * 1, none⟩)) k az.length (by kernel_rfl) (by kernel_rfl) (by kernel_rfl) (by omega) (by kernel_rfl) ?_
          refine sv_rd 62 (.int .i64 a2) 3 1 (0 + k * 1) (by kernel_rfl) (by kernel_rfl) (by kernel_rfl) (ld_cell (l := az) (e := 3) (ro := true) (k := k) (j := 0) inC_len (by kernel_rfl) (by kernel_rfl) (by kernel_rfl) ha2 rfl) (veq_int _ _) (by kernel_rfl) ?_
          refine sv_run 2 ?_
          refine sv_see 64 (.int .i64 (((k : Nat) : Int) - 1)) (see_int (x := (IntKind.i64.wrap (((k : Nat) : Int) - 1))) (by kernel_rfl) (w64 (by omega) (by omega) (by omega))) ?_
          refine sv_ask 65 (.int .i64 (0 + a2 % ((((k : Nat) : Int) - 1) - 0 + 1))) 12 #[.int .i64 a2, .int .i64 0, .int .i64 (((k : Nat) : Int) - 1)] (by kernel_rfl) (by kernel_rfl) (by kernel_rfl) (orc12 a2 0 (((k : Nat) : Int) - 1) (by simp only [inB, Bool.and_eq_true, decide_eq_true_eq]; omega)) ?_
          refine sv_see 65 (.int .i64 (a2 % ((k : Nat) : Int))) (see_int (x := (0 + a2 % ((((k : Nat) : Int) - 1) - 0 + 1))) (by kernel_rfl) (by rw [show ((((k : Nat) : Int) - 1) - 0 + 1 : Int) = ((k : Nat) : Int) by omega]; omega)) ?_
          refine sv_run 1 ?_
          refine sv_rd 67 (.slice (some ⟨2, 0, none⟩) bs.length (unk + 1)) 22 4 2 (by kernel_rfl) (by kernel_rfl) (by kernel_rfl) (by kernel_rfl) (veq_slice _ _ _) (by kernel_rfl) ?_
          refine sv_run 1 ?_
          refine sv_ix 69 (.pointer (some ⟨2, 0 + k * 1, none⟩)) k bs.length (by kernel_rfl) (by kernel_rfl) (by kernel_rfl) (by omega) (by kernel_rfl) ?_
          refine sv_rd 70 (.int .i64 a3) 3 2 (0 + k * 1) (by kernel_rfl) (by kernel_rfl) (by kernel_rfl) (ld_cell (l := bs) (e := 3) (ro := true) (k := k) (j := 0) inC_len (by kernel_rfl) (by kernel_rfl) (by kernel_rfl) ha3 rfl) (veq_int _ _) (by kernel_rfl) ?_
          refine sv_run 2 ?_
          refine sv_see 72 (.int .i64 (((k : Nat) : Int) - 1)) (see_int (x := (IntKind.i64.wrap (((k : Nat) : Int) - 1))) (by kernel_rfl) (w64 (by omega) (by omega) (by omega))) ?_
          refine sv_ask 73 (.int .i64 (0 + a3 % ((((k : Nat) : Int) - 1) - 0 + 1))) 12 #[.int .i64 a3, .int .i64 0, .int .i64 (((k : Nat) : Int) - 1)] (by kernel_rfl) (by kernel_rfl) (by kernel_rfl) (orc12 a3 0 (((k : Nat) : Int) - 1) (by simp only [inB, Bool.and_eq_true, decide_eq_true_eq]; omega)) ?_
          refine sv_see 73 (.int .i64 (a3 % ((k : Nat) : Int))) (see_int (x := (0 + a3 % ((((k : Nat) : Int) - 1) - 0 + 1))) (by kernel_rfl) (by rw [show ((((k : Nat) : Int) - 1) - 0 + 1 : Int) = ((k : Nat) : Int) by omega]; omega)) ?_
          refine sv_run 2 ?_
          refine sv_end (by kernel_rfl) ?_
          refine sd_run 6 ?_
          refine sd_grow 79 26 26 50 4 39 7 k 1 11 (.slice (some ⟨10, 0, none⟩) 1 1) (tab iiC (mkC ops az bs k)) [Value.int .i64 4, .int .i64 ((k : Nat) : Int), .int .i64 (a2 % ((k : Nat) : Int)), .int .i64 (a3 % ((k : Nat) : Int)), .int .u32 20] (tab iiC (mkC ops az bs k ++ [(4, ((k : Nat) : Int), (a2 % ((k : Nat) : Int)), (a3 % ((k : Nat) : Int)), 20)])) (by kernel_rfl) (by kernel_rfl) (by kernel_rfl) (by kernel_rfl) (by kernel_rfl) ((tab_len iiC_len _).trans (by rw [mkC_len])) (by kernel_rfl) (by kernel_rfl) (by decide) (by kernel_rfl) (by omega) (by kernel_rfl) (tab_snoc (mkC ops az bs k) (4, ((k : Nat) : Int), (a2 % ((k : Nat) : Int)), (a3 % ((k : Nat) : Int)), 20)) ?_
          refine sd_run 8 ?_
          refine sd_see 32 (.int .i64 ((k + 1 : Nat) : Int)) (see_int (x := (IntKind.i64.wrap (((k : Nat) : Int) + 1))) (by kernel_rfl) (w64 (by omega) (by omega) (by omega))) ?_
          refine sd_run 2 ?_
          refine sd_inv R1_ (by kernel_rfl) (hR1_ _ (N - (k + 1)) _ (emOf [some 0, some 1, some 2, some 3, some 4, some 5, some 6, some 11]) (by omega) ⟨k + 1, rfl, (by omega), rfl⟩ ⟨sub_of (by kernel_rfl) (by kernel_rfl) ⟨bk_flat (tab inC ops) (by kernel_rfl) (tab_plain inC_pl _) rfl, bk_flat (tab inC az) (by kernel_rfl) (tab_plain inC_pl _) rfl, bk_flat (tab inC bs) (by kernel_rfl) (tab_plain inC_pl _) rfl, bk_flat (tab inC outs) (by kernel_rfl) (tab_plain inC_pl _) rfl, bk_ren (by kernel_rfl) (by kernel_rfl), bk_ren (by kernel_rfl) (by kernel_rfl), bk_ren (by kernel_rfl) (by kernel_rfl), bk_flat (tab iiC (mkC ops az bs k ++ [(4, ((k : Nat) : Int), (a2 % ((k : Nat) : Int)), (a3 % ((k : Nat) : Int)), 20)])) (by kernel_rfl) (tab_plain iiC_pl _) (congrArg (tab iiC) (mkC_snoc hmk)), True.intro⟩, te_of (by kernel_rfl) (by kernel_rfl)⟩ (by kernel_rfl))
      · skip
        have hmk : mkI ops az bs k = (0, (k : Int), 0, 0, (k : Int)) := by unfold mkI; rw [ea1, ea2, ea3]; rw [if_neg (by omega)]
        refine sd_run 8 ?_
        refine sd_see 12 (.bool true) (see_bool (by kernel_rfl) ((decide_eq_true (by omega)) : ((decide (((k : Nat) : Int) < ((ops.length : Nat) : Int)))) = true)) ?_
        refine sd_run 6 ?_
        refine sd_see 18 (.bool true) (see_bool (by kernel_rfl) ((decide_eq_true (by omega)) : ((decide (((k : Nat) : Int) < ((az.length : Nat) : Int)))) = true)) ?_
        refine sd_run 7 ?_
        refine sd_see 25 (.bool true) (see_bool (by kernel_rfl) ((decide_eq_true (by omega)) : ((decide (((k : Nat) : Int) < ((bs.length : Nat) : Int)))) = true)) ?_
        refine sd_run 4 ?_
        refine sd_see 29 (.bool true) (see_bool (by kernel_rfl) ((decide_eq_true (by omega)) : ((decide (((k : Nat) : Int) < 30))) = true)) ?_
        refine sd_run 13 ?_
        refine sd_see 35 (.int .u32 ((k : Nat) : Int)) (see_int (x := IntKind.u32.wrap ((k : Nat) : Int)) (by kernel_rfl) (wu32 rfl (by omega) (by omega))) ?_
        refine sd_run 10 ?_
        refine sd_see 38 (.bool true) (see_bool (by kernel_rfl) ((decide_eq_true (by omega)) : ((decide (((k : Nat) : Int) > 0))) = true)) ?_
        refine sd_run 4 ?_
        refine sd_ix 43 (.pointer (some ⟨0, 0 + k * 1, none⟩)) k ops.length (by kernel_rfl) (by kernel_rfl) (by kernel_rfl) (by omega) ?_
        refine sd_ld 44 (.int .i64 a1) 3 (.pointer (some ⟨0, 0 + k * 1, none⟩)) (by kernel_rfl) (by kernel_rfl) (by kernel_rfl) (ld_cell (l := ops) (e := 3) (ro := true) (k := k) (j := 0) inC_len (by kernel_rfl) (by kernel_rfl) (by kernel_rfl) ha1 rfl) ?_
        refine sd_run 2 ?_
        refine sd_see 46 (.bool false) (see_bool (by kernel_rfl) ((decide_eq_false ht) : ((decide (((Int.tmod a1 3) : Int) > 0))) = false)) ?_
        refine sd_run 11 ?_
        refine sd_grow 79 26 26 50 4 39 7 k 1 10 (.slice (some ⟨9, 0, none⟩) 1 1) (tab iiC (mkC ops az bs k)) [Value.int .i64 0, .int .i64 ((k : Nat) : Int), .int .i64 0, .int .i64 0, .int .u32 ((k : Nat) : Int)] (tab iiC (mkC ops az bs k ++ [(0, ((k : Nat) : Int), 0, 0, ((k : Nat) : Int))])) (by kernel_rfl) (by kernel_rfl) (by kernel_rfl) (by kernel_rfl) (by kernel_rfl) ((tab_len iiC_len _).trans (by rw [mkC_len])) (by kernel_rfl) (by kernel_rfl) (by decide) (by kernel_rfl) (by omega) (by kernel_rfl) (tab_snoc (mkC ops az bs k) (0, ((k : Nat) : Int), 0, 0, ((k : Nat) : Int))) ?_
        refine sd_run 8 ?_
        refine sd_see 32 (.int .i64 ((k + 1 : Nat) : Int)) (see_int (x := (IntKind.i64.wrap (((k : Nat) : Int) + 1))) (by kernel_rfl) (w64 (by omega) (by omega) (by omega))) ?_
        refine sd_run 2 ?_
        refine sd_inv R1_ (by kernel_rfl) (hR1_ _ (N - (k + 1)) _ (emOf [some 0, some 1, some 2, some 3, some 4, some 5, some 6, some 10]) (by omega) ⟨k + 1, rfl, (by omega), rfl⟩ ⟨sub_of (by kernel_rfl) (by kernel_rfl) ⟨bk_flat (tab inC ops) (by kernel_rfl) (tab_plain inC_pl _) rfl, bk_flat (tab inC az) (by kernel_rfl) (tab_plain inC_pl _) rfl, bk_flat (tab inC bs) (by kernel_rfl) (tab_plain inC_pl _) rfl, bk_flat (tab inC outs) (by kernel_rfl) (tab_plain inC_pl _) rfl, bk_ren (by kernel_rfl) (by kernel_rfl), bk_ren (by kernel_rfl) (by kernel_rfl), bk_ren (by kernel_rfl) (by kernel_rfl), bk_flat (tab iiC (mkC ops az bs k ++ [(0, ((k : Nat) : Int), 0, 0, ((k : Nat) : Int))])) (by kernel_rfl) (tab_plain iiC_pl _) (congrArg (tab iiC) (mkC_snoc hmk)), True.intro⟩, te_of (by kernel_rfl) (by kernel_rfl)⟩ (by kernel_rfl))
  · skip
    obtain rfl : k = N := by omega
    refine sd_run 2 ?_
    refine sd_mid 138 (cl (cl (cl (cl (cr (cl (cr (cr f9b)))))))) [.next (cr (cl (cl (cl (cr (cl (cr (cr f9b)))))))), .next (cr (cl (cl (cr (cl (cr (cr f9b))))))), .inv R1_, .blk 0, .next (cr (cr (cr f9b)))] (by kernel_rfl) (by kernel_rfl) (by kernel_rfl) (fun s9 => s9 = ⟨tmL [(1, .pointer (some ⟨4, 0, none⟩)), (2, .pointer (some ⟨5, 0, none⟩)), (3, .pointer (some ⟨6, 0, none⟩)), (4, .int .i64 ((k : Nat) : Int)), (30, .bool false)], hq [some ⟨(tab inC ops), 3, true⟩, some ⟨(tab inC az), 3, true⟩, some ⟨(tab inC bs), 3, true⟩, some ⟨(tab inC outs), 3, true⟩, some ⟨[Value.slice (some ⟨0, 0, none⟩) ops.length (unk + 1), .slice (some ⟨1, 0, none⟩) az.length (unk + 1), .slice (some ⟨2, 0, none⟩) bs.length (unk + 1), .slice (some ⟨3, 0, none⟩) outs.length (unk + 1), .int .i64 fl, .bool wr], 24, false⟩, some ⟨[Value.slice none 0 0, .int .i64 0, .int .i64 0, .int .i64 0, .int .i64 0, .slice none 0 0, .slice none 0 0, .int .i64 0, .int .u32 0, .int .i64 0, .int .i64 0, .int .u32 0, .int .i64 0, .int .i64 0], 29, false⟩, some ⟨[Value.slice (some ⟨7, 0, none⟩) k (unk + 5), .int .i64 0, .int .i64 0, .int .i64 0, .int .i64 0, .slice none 0 0, .slice none 0 0, .int .i64 (-1), .int .u32 0, .int .i64 (-1), .int .i64 0, .int .u32 0, .int .i64 1, .int .i64 0], 29, false⟩, some ⟨(tab iiC (mkC ops az bs k)), 50, false⟩]⟩) hX ?_ ?_
    · intro R2_ hR2_
      rcases (by omega : k = ops.length ∨ (k < ops.length ∧ k = az.length) ∨ (k < ops.length ∧ k < az.length ∧ k = bs.length) ∨ (k < ops.length ∧ k < az.length ∧ k < bs.length ∧ k = 30)) with hq | hq | hq | hq
      · skip
        refine sd_run 6 ?_
        refine sd_see 12 (.bool false) (see_bool (by kernel_rfl) ((decide_eq_false (by omega)) : ((decide (((k : Nat) : Int) < ((ops.length : Nat) : Int)))) = false)) ?_
        refine sd_run 19 ?_
        refine sd_inv R2_ (by kernel_rfl) (hR2_ _ _ (emOf [some 0, some 1, some 2, some 3, some 4, some 5, some 6, some 7]) rfl ⟨sub_of (by kernel_rfl) (by kernel_rfl) ⟨bk_flat (tab inC ops) (by kernel_rfl) (tab_plain inC_pl _) rfl, bk_flat (tab inC az) (by kernel_rfl) (tab_plain inC_pl _) rfl, bk_flat (tab inC bs) (by kernel_rfl) (tab_plain inC_pl _) rfl, bk_flat (tab inC outs) (by kernel_rfl) (tab_plain inC_pl _) rfl, bk_ren (by kernel_rfl) (by kernel_rfl), bk_ren (by kernel_rfl) (by kernel_rfl), bk_ren (by kernel_rfl) (by kernel_rfl), bk_flat (tab iiC (mkC ops az bs k)) (by kernel_rfl) (tab_plain iiC_pl _) rfl, True.intro⟩, te_of (by kernel_rfl) (by kernel_rfl)⟩ (by kernel_rfl))
      · skip
        refine sd_run 6 ?_
        refine sd_see 12 (.bool true) (see_bool (by kernel_rfl) ((decide_eq_true (by omega)) : ((decide (((k : Nat) : Int) < ((ops.length : Nat) : Int)))) = true)) ?_
        refine sd_run 6 ?_
        refine sd_see 18 (.bool false) (see_bool (by kernel_rfl) ((decide_eq_false (by omega)) : ((decide (((k : Nat) : Int) < ((az.length : Nat) : Int)))) = false)) ?_
        refine sd_run 13 ?_
        refine sd_inv R2_ (by kernel_rfl) (hR2_ _ _ (emOf [some 0, some 1, some 2, some 3, some 4, some 5, some 6, some 7]) rfl ⟨sub_of (by kernel_rfl) (by kernel_rfl) ⟨bk_flat (tab inC ops) (by kernel_rfl) (tab_plain inC_pl _) rfl, bk_flat (tab inC az) (by kernel_rfl) (tab_plain inC_pl _) rfl, bk_flat (tab inC bs) (by kernel_rfl) (tab_plain inC_pl _) rfl, bk_flat (tab inC outs) (by kernel_rfl) (tab_plain inC_pl _) rfl, bk_ren (by kernel_rfl) (by kernel_rfl), bk_ren (by kernel_rfl) (by kernel_rfl), bk_ren (by kernel_rfl) (by kernel_rfl), bk_flat (tab iiC (mkC ops az bs k)) (by kernel_rfl) (tab_plain iiC_pl _) rfl, True.intro⟩, te_of (by kernel_rfl) (by kernel_rfl)⟩ (by kernel_rfl))
      · skip
        refine sd_run 6 ?_
        refine sd_see 12 (.bool true) (see_bool (by kernel_rfl) ((decide_eq_true (by omega)) : ((decide (((k : Nat) : Int) < ((ops.length : Nat) : Int)))) = true)) ?_
        refine sd_run 6 ?_
        refine sd_see 18 (.bool true) (see_bool (by kernel_rfl) ((decide_eq_true (by omega)) : ((decide (((k : Nat) : Int) < ((az.length : Nat) : Int)))) = true)) ?_
        refine sd_run 7 ?_
        refine sd_see 25 (.bool false) (see_bool (by kernel_rfl) ((decide_eq_false (by omega)) : ((decide (((k : Nat) : Int) < ((bs.length : Nat) : Int)))) = false)) ?_
        refine sd_run 6 ?_
        refine sd_inv R2_ (by kernel_rfl) (hR2_ _ _ (emOf [some 0, some 1, some 2, some 3, some 4, some 5, some 6, some 7]) rfl ⟨sub_of (by kernel_rfl) (by kernel_rfl) ⟨bk_flat (tab inC ops) (by kernel_rfl) (tab_plain inC_pl _) rfl, bk_flat (tab inC az) (by kernel_rfl) (tab_plain inC_pl _) rfl, bk_flat (tab inC bs) (by kernel_rfl) (tab_plain inC_pl _) rfl, bk_flat (tab inC outs) (by kernel_rfl) (tab_plain inC_pl _) rfl, bk_ren (by kernel_rfl) (by kernel_rfl), bk_ren (by kernel_rfl) (by kernel_rfl), bk_ren (by kernel_rfl) (by kernel_rfl), bk_flat (tab iiC (mkC ops az bs k)) (by kernel_rfl) (tab_plain iiC_pl _) rfl, True.intro⟩, te_of (by kernel_rfl) (by kernel_rfl)⟩ (by kernel_rfl))
      · skip
        refine sd_run 6 ?_
        refine sd_see 12 (.bool true) (see_bool (by kernel_rfl) ((decide_eq_true (by omega)) : ((decide (((k : Nat) : Int) < ((ops.length : Nat) : Int)))) = true)) ?_
        refine sd_run 6 ?_
        refine sd_see 18 (.bool true) (see_bool (by kernel_rfl) ((decide_eq_true (by omega)) : ((decide (((k : Nat) : Int) < ((az.length : Nat) : Int)))) = true)) ?_
        refine sd_run 7 ?_
        refine sd_see 25 (.bool true) (see_bool (by kernel_rfl) ((decide_eq_true (by omega)) : ((decide (((k : Nat) : Int) < ((bs.length : Nat) : Int)))) = true)) ?_
        refine sd_run 4 ?_
        refine sd_see 29 (.bool false) (see_bool (by kernel_rfl) ((decide_eq_false (by omega)) : ((decide (((k : Nat) : Int) < 30))) = false)) ?_
        refine sd_run 2 ?_
        refine sd_inv R2_ (by kernel_rfl) (hR2_ _ _ (emOf [some 0, some 1, some 2, some 3, some 4, some 5, some 6, some 7]) rfl ⟨sub_of (by kernel_rfl) (by kernel_rfl) ⟨bk_flat (tab inC ops) (by kernel_rfl) (tab_plain inC_pl _) rfl, bk_flat (tab inC az) (by kernel_rfl) (tab_plain inC_pl _) rfl, bk_flat (tab inC bs) (by kernel_rfl) (tab_plain inC_pl _) rfl, bk_flat (tab inC outs) (by kernel_rfl) (tab_plain inC_pl _) rfl, bk_ren (by kernel_rfl) (by kernel_rfl), bk_ren (by kernel_rfl) (by kernel_rfl), bk_ren (by kernel_rfl) (by kernel_rfl), bk_flat (tab iiC (mkC ops az bs k)) (by kernel_rfl) (tab_plain iiC_pl _) rfl, True.intro⟩, te_of (by kernel_rfl) (by kernel_rfl)⟩ (by kernel_rfl))
    · rintro s9 rfl
      refine sd_run 23 ?_
      have hfb := hf
      simp only [i64B, Bool.and_eq_true, decide_eq_true_eq] at hfb
      obtain ⟨M, hM⟩ : ∃ M, M = (if k = 0 then 0 else min outs.length 6) := ⟨_, rfl⟩
      have hMl : M ≤ outs.length ∧ M ≤ 6 := by rw [hM]; split <;> omega
      refine sd_loop 138 (cl (cl (cr (cl (cr (cr (cr (cr f9b)))))))) [.blk 2, .next (cr (cr (cr (cr (cr f9b)))))] (by kernel_rfl) (by kernel_rfl) (by kernel_rfl) (fun m9 s9 => ∃ (j : Nat), m9 = M - j ∧ (j ≤ M) ∧ s9 = ⟨tmL [(1, .pointer (some ⟨4, 0, none⟩)), (2, .pointer (some ⟨5, 0, none⟩)), (3, .pointer (some ⟨6, 0, none⟩)), (6, .int .i64 ((j : Nat) : Int))], hq [some ⟨(tab inC ops), 3, true⟩, some ⟨(tab inC az), 3, true⟩, some ⟨(tab inC bs), 3, true⟩, some ⟨(tab inC outs), 3, true⟩, some ⟨[Value.slice (some ⟨0, 0, none⟩) ops.length (unk + 1), .slice (some ⟨1, 0, none⟩) az.length (unk + 1), .slice (some ⟨2, 0, none⟩) bs.length (unk + 1), .slice (some ⟨3, 0, none⟩) outs.length (unk + 1), .int .i64 fl, .bool wr], 24, false⟩, some ⟨[Value.slice none 0 0, .int .i64 0, .int .i64 0, .int .i64 0, .int .i64 0, .slice none 0 0, .slice none 0 0, .int .i64 0, .int .u32 0, .int .i64 0, .int .i64 0, .int .u32 0, .int .i64 0, .int .i64 0], 29, false⟩, some ⟨[Value.slice (some ⟨7, 0, none⟩) k (unk + 5), .int .i64 0, .int .i64 0, .int .i64 0, .int .i64 0, .slice (some ⟨8, 0, none⟩) j (unk + 1), .slice none 0 0, .int .i64 (-1), .int .u32 0, .int .i64 (-1), .int .i64 0, .int .u32 0, .int .i64 1, .int .i64 ((k : Nat) : Int)], 29, false⟩, some ⟨(tab iiC (mkC ops az bs k)), 50, false⟩, some ⟨(tab inC (mkO outs k j)), 3, false⟩]⟩) (M - 0) _ (emOf [some 0, some 1, some 2, some 3, some 4, some 5, some 6, some 7, none]) hX ⟨0, rfl, (by omega), rfl⟩ ⟨sub_of (by kernel_rfl) (by kernel_rfl) ⟨bk_flat (tab inC ops) (by kernel_rfl) (tab_plain inC_pl _) rfl, bk_flat (tab inC az) (by kernel_rfl) (tab_plain inC_pl _) rfl, bk_flat (tab inC bs) (by kernel_rfl) (tab_plain inC_pl _) rfl, bk_flat (tab inC outs) (by kernel_rfl) (tab_plain inC_pl _) rfl, bk_ren (by kernel_rfl) (by kernel_rfl), bk_ren (by kernel_rfl) (by kernel_rfl), bk_ren (by kernel_rfl) (by kernel_rfl), bk_flat (tab iiC (mkC ops az bs k)) (by kernel_rfl) (tab_plain iiC_pl _) rfl, rfl, True.intro⟩, te_of (by kernel_rfl) (by kernel_rfl)⟩ (by kernel_rfl) ?_
      rintro m9 s9 ⟨j, rfl, i3_0, rfl⟩ R3_ hR3_
      have hol : (mkO outs k j).length = j := by unfold mkO; simp; omega
      by_cases hlt2 : j < M
      · skip
        have hk1 : ¬ k = 0 := by intro h; rw [if_pos h] at hM; omega
        rw [if_neg hk1] at hM
        obtain ⟨a4, ha4⟩ : ∃ x_, (outs)[j]? = some x_ := ⟨_, List.getElem?_eq_getElem (by omega)⟩
        have ia4 := hr4 _ (List.mem_of_getElem? ha4)
        simp only [i64B, Bool.and_eq_true, decide_eq_true_eq] at ia4
        have ea4 := getD_at ha4
        refine sd_run 6 ?_
        refine sd_see 87 (.bool true) (see_bool (by kernel_rfl) ((decide_eq_true (by omega)) : ((decide (((k : Nat) : Int) > 0))) = true)) ?_
        refine sd_run 6 ?_
        refine sd_see 93 (.bool true) (see_bool (by kernel_rfl) ((decide_eq_true (by omega)) : ((decide (((j : Nat) : Int) < ((outs.length : Nat) : Int)))) = true)) ?_
        refine sd_run 4 ?_
        refine sd_see 97 (.bool true) (see_bool (by kernel_rfl) ((decide_eq_true (by omega)) : ((decide (((j : Nat) : Int) < 6))) = true)) ?_
        refine sd_run 8 ?_
        refine sd_drawP (by kernel_rfl) ?_
        refine svp_go 1 ?_
        refine svp_line ?_
        refine sv_rd 102 (.slice (some ⟨8, 0, none⟩) j (unk + 1)) 22 6 5 (by kernel_rfl) (by kernel_rfl) (by kernel_rfl) (by kernel_rfl) (veq_slice _ _ _) (by kernel_rfl) ?_
        refine sv_run 3 ?_
        refine sv_ix 106 (.pointer (some ⟨3, 0 + j * 1, none⟩)) j outs.length (by kernel_rfl) (by kernel_rfl) (by kernel_rfl) (by omega) (by kernel_rfl) ?_
        refine sv_ld 107 (.int .i64 a4) 3 (.pointer (some ⟨3, 0 + j * 1, none⟩)) (by kernel_rfl) (by kernel_rfl) (by kernel_rfl) (ld_cell (l := outs) (e := 3) (ro := true) (k := j) (j := 0) inC_len (by kernel_rfl) (by kernel_rfl) (by kernel_rfl) ha4 rfl) (by kernel_rfl) ?_
        refine sv_run 3 ?_
        refine sv_see 110 (.int .i64 (((k : Nat) : Int) - 1)) (see_int (x := (IntKind.i64.wrap (((k : Nat) : Int) - 1))) (by kernel_rfl) (w64 (by omega) (by omega) (by omega))) ?_
        refine sv_ask 111 (.int .i64 (0 + a4 % ((((k : Nat) : Int) - 1) - 0 + 1))) 12 #[.int .i64 a4, .int .i64 0, .int .i64 (((k : Nat) : Int) - 1)] (by kernel_rfl) (by kernel_rfl) (by kernel_rfl) (orc12 a4 0 (((k : Nat) : Int) - 1) (by simp only [inB, Bool.and_eq_true, decide_eq_true_eq]; omega)) ?_
        refine sv_see 111 (.int .i64 (a4 % ((k : Nat) : Int))) (see_int (x := (0 + a4 % ((((k : Nat) : Int) - 1) - 0 + 1))) (by kernel_rfl) (by rw [show ((((k : Nat) : Int) - 1) - 0 + 1 : Int) = ((k : Nat) : Int) by omega]; omega)) ?_
        refine sv_run 1 ?_
        refine sv_grow 113 22 22 3 0 7 8 j 1 10 (.slice (some ⟨9, 0, none⟩) 1 1) (tab inC (mkO outs k j)) [Value.int .i64 (a4 % ((k : Nat) : Int))] (tab inC (mkO outs k j ++ [(a4 % ((k : Nat) : Int))])) (by kernel_rfl) (by kernel_rfl) (by kernel_rfl) (by kernel_rfl) (by kernel_rfl) ((tab_len inC_len _).trans (by rw [hol])) (by kernel_rfl) (by kernel_rfl) (by decide) (by kernel_rfl) (by omega) (by kernel_rfl) (tab_snoc (mkO outs k j) (a4 % ((k : Nat) : Int))) (by kernel_rfl) ?_
        refine sv_run 2 ?_
        refine sv_end (by kernel_rfl) ?_
        refine sd_run 5 ?_
        refine sd_see 100 (.int .i64 ((j + 1 : Nat) : Int)) (see_int (x := (IntKind.i64.wrap (((j : Nat) : Int) + 1))) (by kernel_rfl) (w64 (by omega) (by omega) (by omega))) ?_
        refine sd_run 2 ?_
        refine sd_inv R3_ (by kernel_rfl) (hR3_ _ (M - (j + 1)) _ (emOf [some 0, some 1, some 2, some 3, some 4, some 5, some 6, some 7, some 10]) (by omega) ⟨j + 1, rfl, (by omega), rfl⟩ ⟨sub_of (by kernel_rfl) (by kernel_rfl) ⟨bk_flat (tab inC ops) (by kernel_rfl) (tab_plain inC_pl _) rfl, bk_flat (tab inC az) (by kernel_rfl) (tab_plain inC_pl _) rfl, bk_flat (tab inC bs) (by kernel_rfl) (tab_plain inC_pl _) rfl, bk_flat (tab inC outs) (by kernel_rfl) (tab_plain inC_pl _) rfl, bk_ren (by kernel_rfl) (by kernel_rfl), bk_ren (by kernel_rfl) (by kernel_rfl), bk_ren (by kernel_rfl) (by kernel_rfl), bk_flat (tab iiC (mkC ops az bs k)) (by kernel_rfl) (tab_plain iiC_pl _) rfl, bk_flat (tab inC (mkO outs k j ++ [(a4 % ((k : Nat) : Int))])) (by kernel_rfl) (tab_plain inC_pl _) (congrArg (tab inC) (mkO_snoc ha4)), True.intro⟩, te_of (by kernel_rfl) (by kernel_rfl)⟩ (by kernel_rfl))
      · skip
        obtain rfl : j = M := by omega
        rcases (by revert hM; split <;> omega : k = 0 ∨ (k ≠ 0 ∧ j = outs.length) ∨ (k ≠ 0 ∧ j < outs.length ∧ j = 6)) with hz | hz | hz
        · skip
          refine sd_run 6 ?_
          refine sd_see 87 (.bool false) (see_bool (by kernel_rfl) ((decide_eq_false (by omega)) : ((decide (((k : Nat) : Int) > 0))) = false)) ?_
          refine sd_run 25 ?_
          refine sd_see 117 (.bool false) (see_bool (by kernel_rfl) ((decide_eq_false (by omega)) : ((decide (((k : Nat) : Int) > 0))) = false)) ?_
          refine sd_run 18 ?_
          rcases Bool.eq_false_or_eq_true (wr) with hc5 | hc5
          · skip
            refine sd_see 132 (.bool true) (see_bool (by kernel_rfl) hc5) ?_
            refine sd_run 5 ?_
            refine sd_see 135 (.int .i64 ((k + 1 : Nat) : Int)) (see_int (x := (IntKind.i64.wrap (((k : Nat) : Int) + 1))) (by kernel_rfl) (w64 (by omega) (by omega) (by omega))) ?_
            refine sd_run 11 ?_
            have eN : mkN ops az bs = k := by unfold mkN; omega
            have eM : mkM outs k = j := hM.symm
            have eF : mkF fl k = (-1) := by unfold mkF; rw [if_neg (by omega)]
            rw [eN] at hc ho hff hv
            rw [eM] at ho
            rw [eF] at hff
            rw [hc5] at hv
            subst hc ho hff
            rw [mkC_len] at hn
            rw [hol] at hm
            replace hn := hn.symm; replace hm := hm.symm; subst hn hm
            replace hv : vs = ((k : Nat) : Int) + 1 := hv
            subst hv
            refine sd_end (.agg #[.slice (some ⟨7, 0, none⟩) k (unk + 5), .int .i64 0, .int .i64 0, .int .i64 0, .int .i64 0, .slice (some ⟨8, 0, none⟩) j (unk + 1), .slice none 0 0, .int .i64 (-1), .int .u32 0, .int .i64 (-1), .int .i64 0, .int .u32 0, .int .i64 1, .int .i64 ((k + 1 : Nat) : Int)]) hX (by kernel_rfl) (by kernel_rfl) (by kernel_rfl) (.agg #[.slice (some ⟨4, 0, none⟩) k (unk + 5), .int .i64 0, .int .i64 0, .int .i64 0, .int .i64 0, .slice (some ⟨5, 0, none⟩) j (unk + 1), .slice none 0 0, .int .i64 (-1), .int .u32 0, .int .i64 (-1), .int .i64 0, .int .u32 0, .int .i64 1, .int .i64 (((k : Nat) : Int) + 1)]) (hq [some ⟨(tab inC ops), 3, true⟩, some ⟨(tab inC az), 3, true⟩, some ⟨(tab inC bs), 3, true⟩, some ⟨(tab inC outs), 3, true⟩, some ⟨(tab iiC (mkC ops az bs k)), 50, false⟩, some ⟨(tab inC (mkO outs k j)), 3, false⟩]) (emOf [some 0, some 1, some 2, some 3, some 7, some 8]) (sub_of (by kernel_rfl) (by kernel_rfl) ⟨bk_flat (tab inC ops) (by kernel_rfl) (tab_plain inC_pl _) rfl, bk_flat (tab inC az) (by kernel_rfl) (tab_plain inC_pl _) rfl, bk_flat (tab inC bs) (by kernel_rfl) (tab_plain inC_pl _) rfl, bk_flat (tab inC outs) (by kernel_rfl) (tab_plain inC_pl _) rfl, bk_flat (tab iiC (mkC ops az bs k)) (by kernel_rfl) (tab_plain iiC_pl _) rfl, bk_flat (tab inC (mkO outs k j)) (by kernel_rfl) (tab_plain inC_pl _) rfl, True.intro⟩) (rn2_sound _ _ (by kernel_rfl)) ⟨rfl, rfl⟩
          · skip
            refine sd_see 132 (.bool false) (see_bool (by kernel_rfl) hc5) ?_
            refine sd_run 10 ?_
            have eN : mkN ops az bs = k := by unfold mkN; omega
            have eM : mkM outs k = j := hM.symm
            have eF : mkF fl k = (-1) := by unfold mkF; rw [if_neg (by omega)]
            rw [eN] at hc ho hff hv
            rw [eM] at ho
            rw [eF] at hff
            rw [hc5] at hv
            subst hc ho hff
            rw [mkC_len] at hn
            rw [hol] at hm
            replace hn := hn.symm; replace hm := hm.symm; subst hn hm
            replace hv : vs = ((k : Nat) : Int) := hv
            subst hv
            refine sd_end (.agg #[.slice (some ⟨7, 0, none⟩) k (unk + 5), .int .i64 0, .int .i64 0, .int .i64 0, .int .i64 0, .slice (some ⟨8, 0, none⟩) j (unk + 1), .slice none 0 0, .int .i64 (-1), .int .u32 0, .int .i64 (-1), .int .i64 0, .int .u32 0, .int .i64 1, .int .i64 ((k : Nat) : Int)]) hX (by kernel_rfl) (by kernel_rfl) (by kernel_rfl) (.agg #[.slice (some ⟨4, 0, none⟩) k (unk + 5), .int .i64 0, .int .i64 0, .int .i64 0, .int .i64 0, .slice (some ⟨5, 0, none⟩) j (unk + 1), .slice none 0 0, .int .i64 (-1), .int .u32 0, .int .i64 (-1), .int .i64 0, .int .u32 0, .int .i64 1, .int .i64 ((k : Nat) : Int)]) (hq [some ⟨(tab inC ops), 3, true⟩, some ⟨(tab inC az), 3, true⟩, some ⟨(tab inC bs), 3, true⟩, some ⟨(tab inC outs), 3, true⟩, some ⟨(tab iiC (mkC ops az bs k)), 50, false⟩, some ⟨(tab inC (mkO outs k j)), 3, false⟩]) (emOf [some 0, some 1, some 2, some 3, some 7, some 8]) (sub_of (by kernel_rfl) (by kernel_rfl) ⟨bk_flat (tab inC ops) (by kernel_rfl) (tab_plain inC_pl _) rfl, bk_flat (tab inC az) (by kernel_rfl) (tab_plain inC_pl _) rfl, bk_flat (tab inC bs) (by kernel_rfl) (tab_plain inC_pl _) rfl, bk_flat (tab inC outs) (by kernel_rfl) (tab_plain inC_pl _) rfl, bk_flat (tab iiC (mkC ops az bs k)) (by kernel_rfl) (tab_plain iiC_pl _) rfl, bk_flat (tab inC (mkO outs k j)) (by kernel_rfl) (tab_plain inC_pl _) rfl, True.intro⟩) (rn2_sound _ _ (by kernel_rfl)) ⟨rfl, rfl⟩
        · skip
          by_cases hfl : Int.tmod fl 2 = 0
          · skip
            refine sd_run 6 ?_
            refine sd_see 87 (.bool true) (see_bool (by kernel_rfl) ((decide_eq_true (by omega)) : ((decide (((k : Nat) : Int) > 0))) = true)) ?_
            refine sd_run 6 ?_
            refine sd_see 93 (.bool false) (see_bool (by kernel_rfl) ((decide_eq_false (by omega)) : ((decide (((j : Nat) : Int) < ((outs.length : Nat) : Int)))) = false)) ?_
            refine sd_run 19 ?_
            refine sd_see 117 (.bool true) (see_bool (by kernel_rfl) ((decide_eq_true (by omega)) : ((decide (((k : Nat) : Int) > 0))) = true)) ?_
            refine sd_run 5 ?_
            refine sd_see 122 (.bool true) (see_bool (by kernel_rfl) ((beq_iff_eq.2 hfl) : ((((Int.tmod fl 2) : Int) == 0)) = true)) ?_
            refine sd_run 10 ?_
            refine sd_see 128 (.int .i64 (((k : Nat) : Int) - 1)) (see_int (x := (IntKind.i64.wrap (((k : Nat) : Int) - 1))) (by kernel_rfl) (w64 (by omega) (by omega) (by omega))) ?_
            refine sd_ask 129 (.int .i64 (0 + fl % ((((k : Nat) : Int) - 1) - 0 + 1))) 12 #[.int .i64 fl, .int .i64 0, .int .i64 (((k : Nat) : Int) - 1)] (by kernel_rfl) (by kernel_rfl) (by kernel_rfl) (orc12 fl 0 (((k : Nat) : Int) - 1) (by simp only [inB, Bool.and_eq_true, decide_eq_true_eq]; omega)) ?_
            refine sd_see 129 (.int .i64 (fl % ((k : Nat) : Int))) (see_int (x := (0 + fl % ((((k : Nat) : Int) - 1) - 0 + 1))) (by kernel_rfl) (by rw [show ((((k : Nat) : Int) - 1) - 0 + 1 : Int) = ((k : Nat) : Int) by omega]; omega)) ?_
            refine sd_run 11 ?_
            rcases Bool.eq_false_or_eq_true (wr) with hc6 | hc6
            · skip
              refine sd_see 132 (.bool true) (see_bool (by kernel_rfl) hc6) ?_
              refine sd_run 5 ?_
              refine sd_see 135 (.int .i64 ((k + 1 : Nat) : Int)) (see_int (x := (IntKind.i64.wrap (((k : Nat) : Int) + 1))) (by kernel_rfl) (w64 (by omega) (by omega) (by omega))) ?_
              refine sd_run 11 ?_
              have eN : mkN ops az bs = k := by unfold mkN; omega
              have eM : mkM outs k = j := hM.symm
              have eF : mkF fl k = fl % (k : Int) := by unfold mkF; rw [if_pos (by omega)]
              rw [eN] at hc ho hff hv
              rw [eM] at ho
              rw [eF] at hff
              rw [hc6] at hv
              subst hc ho hff
              rw [mkC_len] at hn
              rw [hol] at hm
              replace hn := hn.symm; replace hm := hm.symm; subst hn hm
              replace hv : vs = ((k : Nat) : Int) + 1 := hv
              subst hv
              refine sd_end (.agg #[.slice (some ⟨7, 0, none⟩) k (unk + 5), .int .i64 0, .int .i64 0, .int .i64 0, .int .i64 0, .slice (some ⟨8, 0, none⟩) j (unk + 1), .slice none 0 0, .int .i64 (fl % ((k : Nat) : Int)), .int .u32 0, .int .i64 (-1), .int .i64 0, .int .u32 0, .int .i64 1, .int .i64 ((k + 1 : Nat) : Int)]) hX (by kernel_rfl) (by kernel_rfl) (by kernel_rfl) (.agg #[.slice (some ⟨4, 0, none⟩) k (unk + 5), .int .i64 0, .int .i64 0, .int .i64 0, .int .i64 0, .slice (some ⟨5, 0, none⟩) j (unk + 1), .slice none 0 0, .int .i64 (fl % (k : Int)), .int .u32 0, .int .i64 (-1), .int .i64 0, .int .u32 0, .int .i64 1, .int .i64 (((k : Nat) : Int) + 1)]) (hq [some ⟨(tab inC ops), 3, true⟩, some ⟨(tab inC az), 3, true⟩, some ⟨(tab inC bs), 3, true⟩, some ⟨(tab inC outs), 3, true⟩, some ⟨(tab iiC (mkC ops az bs k)), 50, false⟩, some ⟨(tab inC (mkO outs k j)), 3, false⟩]) (emOf [some 0, some 1, some 2, some 3, some 7, some 8]) (sub_of (by kernel_rfl) (by kernel_rfl) ⟨bk_flat (tab inC ops) (by kernel_rfl) (tab_plain inC_pl _) rfl, bk_flat (tab inC az) (by kernel_rfl) (tab_plain inC_pl _) rfl, bk_flat (tab inC bs) (by kernel_rfl) (tab_plain inC_pl _) rfl, bk_flat (tab inC outs) (by kernel_rfl) (tab_plain inC_pl _) rfl, bk_flat (tab iiC (mkC ops az bs k)) (by kernel_rfl) (tab_plain iiC_pl _) rfl, bk_flat (tab inC (mkO outs k j)) (by kernel_rfl) (tab_plain inC_pl _) rfl, True.intro⟩) (rn2_sound _ _ (by kernel_rfl)) ⟨rfl, rfl⟩
            · skip
              refine sd_see 132 (.bool false) (see_bool (by kernel_rfl) hc6) ?_
              refine sd_run 10 ?_
              have eN : mkN ops az bs = k := by unfold mkN; omega
              have eM : mkM outs k = j := hM.symm
              have eF : mkF fl k = fl % (k : Int) := by unfold mkF; rw [if_pos (by omega)]
              rw [eN] at hc ho hff hv
              rw [eM] at ho
              rw [eF] at hff
              rw [hc6] at hv
              subst hc ho hff
              rw [mkC_len] at hn
              rw [hol] at hm
              replace hn := hn.symm; replace hm := hm.symm; subst hn hm
              replace hv : vs = ((k : Nat) : Int) := hv
              subst hv
              refine sd_end (.agg #[.slice (some ⟨7, 0, none⟩) k (unk + 5), .int .i64 0, .int .i64 0, .int .i64 0, .int .i64 0, .slice (some ⟨8, 0, none⟩) j (unk + 1), .slice none 0 0, .int .i64 (fl % ((k : Nat) : Int)), .int .u32 0, .int .i64 (-1), .int .i64 0, .int .u32 0, .int .i64 1, .int .i64 ((k : Nat) : Int)]) hX (by kernel_rfl) (by kernel_rfl) (by kernel_rfl) (.agg #[.slice (some ⟨4, 0, none⟩) k (unk + 5), .int .i64 0, .int .i64 0, .int .i64 0, .int .i64 0, .slice (some ⟨5, 0, none⟩) j (unk + 1), .slice none 0 0, .int .i64 (fl % (k : Int)), .int .u32 0, .int .i64 (-1), .int .i64 0, .int .u32 0, .int .i64 1, .int .i64 ((k : Nat) : Int)]) (hq [some ⟨(tab inC ops), 3, true⟩, some ⟨(tab inC az), 3, true⟩, some ⟨(tab inC bs), 3, true⟩, some ⟨(tab inC outs), 3, true⟩, some ⟨(tab iiC (mkC ops az bs k)), 50, false⟩, some ⟨(tab inC (mkO outs k j)), 3, false⟩]) (emOf [some 0, some 1, some 2, some 3, some 7, some 8]) (sub_of (by kernel_rfl) (by kernel_rfl) ⟨bk_flat (tab inC ops) (by kernel_rfl) (tab_plain inC_pl _) rfl, bk_flat (tab inC az) (by kernel_rfl) (tab_plain inC_pl _) rfl, bk_flat (tab inC bs) (by kernel_rfl) (tab_plain inC_pl _) rfl, bk_flat (tab inC outs) (by kernel_rfl) (tab_plain inC_pl _) rfl, bk_flat (tab iiC (mkC ops az bs k)) (by kernel_rfl) (tab_plain iiC_pl _) rfl, bk_flat (tab inC (mkO outs k j)) (by kernel_rfl) (tab_plain inC_pl _) rfl, True.intro⟩) (rn2_sound _ _ (by kernel_rfl)) ⟨rfl, rfl⟩
          · skip
            refine sd_run 6 ?_
            refine sd_see 87 (.bool true) (see_bool (by kernel_rfl) ((decide_eq_true (by omega)) : ((decide (((k : Nat) : Int) > 0))) = true)) ?_
            refine sd_run 6 ?_
            refine sd_see 93 (.bool false) (see_bool (by kernel_rfl) ((decide_eq_false (by omega)) : ((decide (((j : Nat) : Int) < ((outs.length : Nat) : Int)))) = false)) ?_
            refine sd_run 19 ?_
            refine sd_see 117 (.bool true) (see_bool (by kernel_rfl) ((decide_eq_true (by omega)) : ((decide (((k : Nat) : Int) > 0))) = true)) ?_
            refine sd_run 5 ?_
            refine sd_see 122 (.bool false) (see_bool (by kernel_rfl) ((beq_eq_false_iff_ne.2 hfl) : ((((Int.tmod fl 2) : Int) == 0)) = false)) ?_
            refine sd_run 13 ?_
            rcases Bool.eq_false_or_eq_true (wr) with hc7 | hc7
            · skip
              refine sd_see 132 (.bool true) (see_bool (by kernel_rfl) hc7) ?_
              refine sd_run 5 ?_
              refine sd_see 135 (.int .i64 ((k + 1 : Nat) : Int)) (see_int (x := (IntKind.i64.wrap (((k : Nat) : Int) + 1))) (by kernel_rfl) (w64 (by omega) (by omega) (by omega))) ?_
              refine sd_run 11 ?_
              have eN : mkN ops az bs = k := by unfold mkN; omega
              have eM : mkM outs k = j := hM.symm
              have eF : mkF fl k = (-1) := by unfold mkF; rw [if_neg (by omega)]
              rw [eN] at hc ho hff hv
              rw [eM] at ho
              rw [eF] at hff
              rw [hc7] at hv
              subst hc ho hff
              rw [mkC_len] at hn
              rw [hol] at hm
              replace hn := hn.symm; replace hm := hm.symm; subst hn hm
              replace hv : vs = ((k : Nat) : Int) + 1 := hv
              subst hv
              refine sd_end (.agg #[.slice (some ⟨7, 0, none⟩) k (unk + 5), .int .i64 0, .int .i64 0, .int .i64 0, .int .i64 0, .slice (some ⟨8, 0, none⟩) j (unk + 1), .slice none 0 0, .int .i64 (-1), .int .u32 0, .int .i64 (-1), .int .i64 0, .int .u32 0, .int .i64 1, .int .i64 ((k + 1 : Nat) : Int)]) hX (by kernel_rfl) (by kernel_rfl) (by kernel_rfl) (.agg #[.slice (some ⟨4, 0, none⟩) k (unk + 5), .int .i64 0, .int .i64 0, .int .i64 0, .int .i64 0, .slice (some ⟨5, 0, none⟩) j (unk + 1), .slice none 0 0, .int .i64 (-1), .int .u32 0, .int .i64 (-1), .int .i64 0, .int .u32 0, .int .i64 1, .int .i64 (((k : Nat) : Int) + 1)]) (hq [some ⟨(tab inC ops), 3, true⟩, some ⟨(tab inC az), 3, true⟩, some ⟨(tab inC bs), 3, true⟩, some ⟨(tab inC outs), 3, true⟩, some ⟨(tab iiC (mkC ops az bs k)), 50, false⟩, some ⟨(tab inC (mkO outs k j)), 3, false⟩]) (emOf [some 0, some 1, some 2, some 3, some 7, some 8]) (sub_of (by kernel_rfl) (by kernel_rfl) ⟨bk_flat (tab inC ops) (by kernel_rfl) (tab_plain inC_pl _) rfl, bk_flat (tab inC az) (by kernel_rfl) (tab_plain inC_pl _) rfl, bk_flat (tab inC bs) (by kernel_rfl) (tab_plain inC_pl _) rfl, bk_flat (tab inC outs) (by kernel_rfl) (tab_plain inC_pl _) rfl, bk_flat (tab iiC (mkC ops az bs k)) (by kernel_rfl) (tab_plain iiC_pl _) rfl, bk_flat (tab inC (mkO outs k j)) (by kernel_rfl) (tab_plain inC_pl _) rfl, True.intro⟩) (rn2_sound _ _ (by kernel_rfl)) ⟨rfl, rfl⟩
            · skip
              refine sd_see 132 (.bool false) (see_bool (by kernel_rfl) hc7) ?_
              refine sd_run 10 ?_
              have eN : mkN ops az bs = k := by unfold mkN; omega
              have eM : mkM outs k = j := hM.symm
              have eF : mkF fl k = (-1) := by unfold mkF; rw [if_neg (by omega)]
              rw [eN] at hc ho hff hv
              rw [eM] at ho
              rw [eF] at hff
              rw [hc7] at hv
              subst hc ho hff
              rw [mkC_len] at hn
              rw [hol] at hm
              replace hn := hn.symm; replace hm := hm.symm; subst hn hm
              replace hv : vs = ((k : Nat) : Int) := hv
              subst hv
              refine sd_end (.agg #[.slice (some ⟨7, 0, none⟩) k (unk + 5), .int .i64 0, .int .i64 0, .int .i64 0, .int .i64 0, .slice (some ⟨8, 0, none⟩) j (unk + 1), .slice none 0 0, .int .i64 (-1), .int .u32 0, .int .i64 (-1), .int .i64 0, .int .u32 0, .int .i64 1, .int .i64 ((k : Nat) : Int)]) hX (by kernel_rfl) (by kernel_rfl) (by kernel_rfl) (.agg #[.slice (some ⟨4, 0, none⟩) k (unk + 5), .int .i64 0, .int .i64 0, .int .i64 0, .int .i64 0, .slice (some ⟨5, 0, none⟩) j (unk + 1), .slice none 0 0, .int .i64 (-1), .int .u32 0, .int .i64 (-1), .int .i64 0, .int .u32 0, .int .i64 1, .int .i64 ((k : Nat) : Int)]) (hq [some ⟨(tab inC ops), 3, true⟩, some ⟨(tab inC az), 3, true⟩, some ⟨(tab inC bs), 3, true⟩, some ⟨(tab inC outs), 3, true⟩, some ⟨(tab iiC (mkC ops az bs k)), 50, false⟩, some ⟨(tab inC (mkO outs k j)), 3, false⟩]) (emOf [some 0, some 1, some 2, some 3, some 7, some 8]) (sub_of (by kernel_rfl) (by kernel_rfl) ⟨bk_flat (tab inC ops) (by kernel_rfl) (tab_plain inC_pl _) rfl, bk_flat (tab inC az) (by kernel_rfl) (tab_plain inC_pl _) rfl, bk_flat (tab inC bs) (by kernel_rfl) (tab_plain inC_pl _) rfl, bk_flat (tab inC outs) (by kernel_rfl) (tab_plain inC_pl _) rfl, bk_flat (tab iiC (mkC ops az bs k)) (by kernel_rfl) (tab_plain iiC_pl _) rfl, bk_flat (tab inC (mkO outs k j)) (by kernel_rfl) (tab_plain inC_pl _) rfl, True.intro⟩) (rn2_sound _ _ (by kernel_rfl)) ⟨rfl, rfl⟩
        · skip
          by_cases hfl : Int.tmod fl 2 = 0
          · skip
            refine sd_run 6 ?_
            refine sd_see 87 (.bool true) (see_bool (by kernel_rfl) ((decide_eq_true (by omega)) : ((decide (((k : Nat) : Int) > 0))) = true)) ?_
            refine sd_run 6 ?_
            refine sd_see 93 (.bool true) (see_bool (by kernel_rfl) ((decide_eq_true (by omega)) : ((decide (((j : Nat) : Int) < ((outs.length : Nat) : Int)))) = true)) ?_
            refine sd_run 4 ?_
            refine sd_see 97 (.bool false) (see_bool (by kernel_rfl) ((decide_eq_false (by omega)) : ((decide (((j : Nat) : Int) < 6))) = false)) ?_
            refine sd_run 15 ?_
            refine sd_see 117 (.bool true) (see_bool (by kernel_rfl) ((decide_eq_true (by omega)) : ((decide (((k : Nat) : Int) > 0))) = true)) ?_
            refine sd_run 5 ?_
            refine sd_see 122 (.bool true) (see_bool (by kernel_rfl) ((beq_iff_eq.2 hfl) : ((((Int.tmod fl 2) : Int) == 0)) = true)) ?_
            refine sd_run 10 ?_
            refine sd_see 128 (.int .i64 (((k : Nat) : Int) - 1)) (see_int (x := (IntKind.i64.wrap (((k : Nat) : Int) - 1))) (by kernel_rfl) (w64 (by omega) (by omega) (by omega))) ?_
            refine sd_ask 129 (.int .i64 (0 + fl % ((((k : Nat) : Int) - 1) - 0 + 1))) 12 #[.int .i64 fl, .int .i64 0, .int .i64 (((k : Nat) : Int) - 1)] (by kernel_rfl) (by kernel_rfl) (by kernel_rfl) (orc12 fl 0 (((k : Nat) : Int) - 1) (by simp only [inB, Bool.and_eq_true, decide_eq_true_eq]; omega)) ?_
            refine sd_see 129 (.int .i64 (fl % ((k : Nat) : Int))) (see_int (x := (0 + fl % ((((k : Nat) : Int) - 1) - 0 + 1))) (by kernel_rfl) (by rw [show ((((k : Nat) : Int) - 1) - 0 + 1 : Int) = ((k : Nat) : Int) by omega]; omega)) ?_
            refine sd_run 11 ?_
            rcases Bool.eq_false_or_eq_true (wr) with hc8 | hc8
            · skip
              refine sd_see 132 (.bool true) (see_bool (by kernel_rfl) hc8) ?_
              refine sd_run 5 ?_
              refine sd_see 135 (.int .i64 ((k + 1 : Nat) : Int)) (see_int (x := (IntKind.i64.wrap (((k : Nat) : Int) + 1))) (by kernel_rfl) (w64 (by omega) (by omega) (by omega))) ?_
              refine sd_run 11 ?_
              have eN : mkN ops az bs = k := by unfold mkN; omega
              have eM : mkM outs k = j := hM.symm
              have eF : mkF fl k = fl % (k : Int) := by unfold mkF; rw [if_pos (by omega)]
              rw [eN] at hc ho hff hv
              rw [eM] at ho
              rw [eF] at hff
              rw [hc8] at hv
              subst hc ho hff
              rw [mkC_len] at hn
              rw [hol] at hm
              replace hn := hn.symm; replace hm := hm.symm; subst hn hm
              replace hv : vs = ((k : Nat) : Int) + 1 := hv
              subst hv
              refine sd_end (.agg #[.slice (some ⟨7, 0, none⟩) k (unk + 5), .int .i64 0, .int .i64 0, .int .i64 0, .int .i64 0, .slice (some ⟨8, 0, none⟩) j (unk + 1), .slice none 0 0, .int .i64 (fl % ((k : Nat) : Int)), .int .u32 0, .int .i64 (-1), .int .i64 0, .int .u32 0, .int .i64 1, .int .i64 ((k + 1 : Nat) : Int)]) hX (by kernel_rfl) (by kernel_rfl) (by kernel_rfl) (.agg #[.slice (some ⟨4, 0, none⟩) k (unk + 5), .int .i64 0, .int .i64 0, .int .i64 0, .int .i64 0, .slice (some ⟨5, 0, none⟩) j (unk + 1), .slice none 0 0, .int .i64 (fl % (k : Int)), .int .u32 0, .int .i64 (-1), .int .i64 0, .int .u32 0, .int .i64 1, .int .i64 (((k : Nat) : Int) + 1)]) (hq [some ⟨(tab inC ops), 3, true⟩, some ⟨(tab inC az), 3, true⟩, some ⟨(tab inC bs), 3, true⟩, some ⟨(tab inC outs), 3, true⟩, some ⟨(tab iiC (mkC ops az bs k)), 50, false⟩, some ⟨(tab inC (mkO outs k j)), 3, false⟩]) (emOf [some 0, some 1, some 2, some 3, some 7, some 8]) (sub_of (by kernel_rfl) (by kernel_rfl) ⟨bk_flat (tab inC ops) (by kernel_rfl) (tab_plain inC_pl _) rfl, bk_flat (tab inC az) (by kernel_rfl) (tab_plain inC_pl _) rfl, bk_flat (tab inC bs) (by kernel_rfl) (tab_plain inC_pl _) rfl, bk_flat (tab inC outs) (by kernel_rfl) (tab_plain inC_pl _) rfl, bk_flat (tab iiC (mkC ops az bs k)) (by kernel_rfl) (tab_plain iiC_pl _) rfl, bk_flat (tab inC (mkO outs k j)) (by kernel_rfl) (tab_plain inC_pl _) rfl, True.intro⟩) (rn2_sound _ _ (by kernel_rfl)) ⟨rfl, rfl⟩
            · skip
              refine sd_see 132 (.bool false) (see_bool (by kernel_rfl) hc8) ?_
              refine sd_run 10 ?_
              have eN : mkN ops az bs = k := by unfold mkN; omega
              have eM : mkM outs k = j := hM.symm
              have eF : mkF fl k = fl % (k : Int) := by unfold mkF; rw [if_pos (by omega)]
              rw [eN] at hc ho hff hv
              rw [eM] at ho
              rw [eF] at hff
              rw [hc8] at hv
              subst hc ho hff
              rw [mkC_len] at hn
              rw [hol] at hm
              replace hn := hn.symm; replace hm := hm.symm; subst hn hm
              replace hv : vs = ((k : Nat) : Int) := hv
              subst hv
              refine sd_end (.agg #[.slice (some ⟨7, 0, none⟩) k (unk + 5), .int .i64 0, .int .i64 0, .int .i64 0, .int .i64 0, .slice (some ⟨8, 0, none⟩) j (unk + 1), .slice none 0 0, .int .i64 (fl % ((k : Nat) : Int)), .int .u32 0, .int .i64 (-1), .int .i64 0, .int .u32 0, .int .i64 1, .int .i64 ((k : Nat) : Int)]) hX (by kernel_rfl) (by kernel_rfl) (by kernel_rfl) (.agg #[.slice (some ⟨4, 0, none⟩) k (unk + 5), .int .i64 0, .int .i64 0, .int .i64 0, .int .i64 0, .slice (some ⟨5, 0, none⟩) j (unk + 1), .slice none 0 0, .int .i64 (fl % (k : Int)), .int .u32 0, .int .i64 (-1), .int .i64 0, .int .u32 0, .int .i64 1, .int .i64 ((k : Nat) : Int)]) (hq [some ⟨(tab inC ops), 3, true⟩, some ⟨(tab inC az), 3, true⟩, some ⟨(tab inC bs), 3, true⟩, some ⟨(tab inC outs), 3, true⟩, some ⟨(tab iiC (mkC ops az bs k)), 50, false⟩, some ⟨(tab inC (mkO outs k j)), 3, false⟩]) (emOf [some 0, some 1, some 2, some 3, some 7, some 8]) (sub_of (by kernel_rfl) (by kernel_rfl) ⟨bk_flat (tab inC ops) (by kernel_rfl) (tab_plain inC_pl _) rfl, bk_flat (tab inC az) (by kernel_rfl) (tab_plain inC_pl _) rfl, bk_flat (tab inC bs) (by kernel_rfl) (tab_plain inC_pl _) rfl, bk_flat (tab inC outs) (by kernel_rfl) (tab_plain inC_pl _) rfl, bk_flat (tab iiC (mkC ops az bs k)) (by kernel_rfl) (tab_plain iiC_pl _) rfl, bk_flat (tab inC (mkO outs k j)) (by kernel_rfl) (tab_plain inC_pl _) rfl, True.intro⟩) (rn2_sound _ _ (by kernel_rfl)) ⟨rfl, rfl⟩
          · skip
            refine sd_run 6 ?_
            refine sd_see 87 (.bool true) (see_bool (by kernel_rfl) ((decide_eq_true (by omega)) : ((decide (((k : Nat) : Int) > 0))) = true)) ?_
            refine sd_run 6 ?_
            refine sd_see 93 (.bool true) (see_bool (by kernel_rfl) ((decide_eq_true (by omega)) : ((decide (((j : Nat) : Int) < ((outs.length : Nat) : Int)))) = true)) ?_
            refine sd_run 4 ?_
            refine sd_see 97 (.bool false) (see_bool (by kernel_rfl) ((decide_eq_false (by omega)) : ((decide (((j : Nat) : Int) < 6))) = false)) ?_
            refine sd_run 15 ?_
            refine sd_see 117 (.bool true) (see_bool (by kernel_rfl) ((decide_eq_true (by omega)) : ((decide (((k : Nat) : Int) > 0))) = true)) ?_
            refine sd_run 5 ?_
            refine sd_see 122 (.bool false) (see_bool (by kernel_rfl) ((beq_eq_false_iff_ne.2 hfl) : ((((Int.tmod fl 2) : Int) == 0)) = false)) ?_
            refine sd_run 13 ?_
            rcases Bool.eq_false_or_eq_true (wr) with hc9 | hc9
            · skip
              refine sd_see 132 (.bool true) (see_bool (by kernel_rfl) hc9) ?_
              refine sd_run 5 ?_
              refine sd_see 135 (.int .i64 ((k + 1 : Nat) : Int)) (see_int (x := (IntKind.i64.wrap (((k : Nat) : Int) + 1))) (by kernel_rfl) (w64 (by omega) (by omega) (by omega))) ?_
              refine sd_run 11 ?_
              have eN : mkN ops az bs = k := by unfold mkN; omega
              have eM : mkM outs k = j := hM.symm
              have eF : mkF fl k = (-1) := by unfold mkF; rw [if_neg (by omega)]
              rw [eN] at hc ho hff hv
              rw [eM] at ho
              rw [eF] at hff
              rw [hc9] at hv
              subst hc ho hff
              rw [mkC_len] at hn
              rw [hol] at hm
              replace hn := hn.symm; replace hm := hm.symm; subst hn hm
              replace hv : vs = ((k : Nat) : Int) + 1 := hv
              subst hv
              refine sd_end (.agg #[.slice (some ⟨7, 0, none⟩) k (unk + 5), .int .i64 0, .int .i64 0, .int .i64 0, .int .i64 0, .slice (some ⟨8, 0, none⟩) j (unk + 1), .slice none 0 0, .int .i64 (-1), .int .u32 0, .int .i64 (-1), .int .i64 0, .int .u32 0, .int .i64 1, .int .i64 ((k + 1 : Nat) : Int)]) hX (by kernel_rfl) (by kernel_rfl) (by kernel_rfl) (.agg #[.slice (some ⟨4, 0, none⟩) k (unk + 5), .int .i64 0, .int .i64 0, .int .i64 0, .int .i64 0, .slice (some ⟨5, 0, none⟩) j (unk + 1), .slice none 0 0, .int .i64 (-1), .int .u32 0, .int .i64 (-1), .int .i64 0, .int .u32 0, .int .i64 1, .int .i64 (((k : Nat) : Int) + 1)]) (hq [some ⟨(tab inC ops), 3, true⟩, some ⟨(tab inC az), 3, true⟩, some ⟨(tab inC bs), 3, true⟩, some ⟨(tab inC outs), 3, true⟩, some ⟨(tab iiC (mkC ops az bs k)), 50, false⟩, some ⟨(tab inC (mkO outs k j)), 3, false⟩]) (emOf [some 0, some 1, some 2, some 3, some 7, some 8]) (sub_of (by kernel_rfl) (by kernel_rfl) ⟨bk_flat (tab inC ops) (by kernel_rfl) (tab_plain inC_pl _) rfl, bk_flat (tab inC az) (by kernel_rfl) (tab_plain inC_pl _) rfl, bk_flat (tab inC bs) (by kernel_rfl) (tab_plain inC_pl _) rfl, bk_flat (tab inC outs) (by kernel_rfl) (tab_plain inC_pl _) rfl, bk_flat (tab iiC (mkC ops az bs k)) (by kernel_rfl) (tab_plain iiC_pl _) rfl, bk_flat (tab inC (mkO outs k j)) (by kernel_rfl) (tab_plain inC_pl _) rfl, True.intro⟩) (rn2_sound _ _ (by kernel_rfl)) ⟨rfl, rfl⟩
            · skip
              refine sd_see 132 (.bool false) (see_bool (by kernel_rfl) hc9) ?_
              refine sd_run 10 ?_
              have eN : mkN ops az bs = k := by unfold mkN; omega
              have eM : mkM outs k = j := hM.symm
              have eF : mkF fl k = (-1) := by unfold mkF; rw [if_neg (by omega)]
              rw [eN] at hc ho hff hv
              rw [eM] at ho
              rw [eF] at hff
              rw [hc9] at hv
              subst hc ho hff
              rw [mkC_len] at hn
              rw [hol] at hm
              replace hn := hn.symm; replace hm := hm.symm; subst hn hm
              replace hv : vs = ((k : Nat) : Int) := hv
              subst hv
              refine sd_end (.agg #[.slice (some ⟨7, 0, none⟩) k (unk + 5), .int .i64 0, .int .i64 0, .int .i64 0, .int .i64 0, .slice (some ⟨8, 0, none⟩) j (unk + 1), .slice none 0 0, .int .i64 (-1), .int .u32 0, .int .i64 (-1), .int .i64 0, .int .u32 0, .int .i64 1, .int .i64 ((k : Nat) : Int)]) hX (by kernel_rfl) (by kernel_rfl) (by kernel_rfl) (.agg #[.slice (some ⟨4, 0, none⟩) k (unk + 5), .int .i64 0, .int .i64 0, .int .i64 0, .int .i64 0, .slice (some ⟨5, 0, none⟩) j (unk + 1), .slice none 0 0, .int .i64 (-1), .int .u32 0, .int .i64 (-1), .int .i64 0, .int .u32 0, .int .i64 1, .int .i64 ((k : Nat) : Int)]) (hq [some ⟨(tab inC ops), 3, true⟩, some ⟨(tab inC az), 3, true⟩, some ⟨(tab inC bs), 3, true⟩, some ⟨(tab inC outs), 3, true⟩, some ⟨(tab iiC (mkC ops az bs k)), 50, false⟩, some ⟨(tab inC (mkO outs k j)), 3, false⟩]) (emOf [some 0, some 1, some 2, some 3, some 7, some 8]) (sub_of (by kernel_rfl) (by kernel_rfl) ⟨bk_flat (tab inC ops) (by kernel_rfl) (tab_plain inC_pl _) rfl, bk_flat (tab inC az) (by kernel_rfl) (tab_plain inC_pl _) rfl, bk_flat (tab inC bs) (by kernel_rfl) (tab_plain inC_pl _) rfl, bk_flat (tab inC outs) (by kernel_rfl) (tab_plain inC_pl _) rfl, bk_flat (tab iiC (mkC ops az bs k)) (by kernel_rfl) (tab_plain iiC_pl _) rfl, bk_flat (tab inC (mkO outs k j)) (by kernel_rfl) (tab_plain inC_pl _) rfl, True.intro⟩) (rn2_sound _ _ (by kernel_rfl)) ⟨rfl, rfl⟩
theorem made_right (ops az bs outs : List Int) (fl : Int) : RightP (mkC ops az bs (mkN ops az bs)) (mkO outs (mkN ops az bs) (mkM outs (mkN ops az bs))) [] 0 0 0 0 (mkF fl (mkN ops az bs)) (-1) 0 1 ((mkC ops az bs (mkN ops az bs)).length : Int) := by
  generalize hN : mkN ops az bs = N
  have hN30 : N ≤ 30 := by unfold mkN at hN; omega
  refine ⟨rfl, by rw [mkC_len]; omega, by omega, by omega, by omega, by omega, by omega, ?_, ?_, fun k x h => by simp at h, ?_, .inl rfl, .inl rfl⟩
  · intro k i hk
    unfold mkC at hk
    rw [List.getElem?_map] at hk
    cases hr : (List.range N)[k]? with
    | none => rw [hr] at hk; cases hk
    | some q =>
      rw [hr] at hk
      have hq := (List.getElem?_eq_some_iff.1 hr).2
      simp at hq
      subst hq
      have := Option.some.inj hk
      rw [← this]
      unfold mkI
      split
      · rename_i h
        have e1 : 0 ≤ az.getD k 0 % (k : Int) := Int.emod_nonneg _ (by omega)
        have e2 : az.getD k 0 % (k : Int) < (k : Int) := Int.emod_lt_of_pos _ (by omega)
        have e3 : 0 ≤ bs.getD k 0 % (k : Int) := Int.emod_nonneg _ (by omega)
        have e4 : bs.getD k 0 % (k : Int) < (k : Int) := Int.emod_lt_of_pos _ (by omega)
        generalize az.getD k 0 % (k : Int) = A at e1 e2
        generalize bs.getD k 0 % (k : Int) = B at e3 e4
        rcases (by omega : ops.getD k 0 % 2 = 0 ∨ ops.getD k 0 % 2 = 1) with e | e <;> rw [e] <;> simp [madeB, valB, e1, e2, e3, e4]
      · simp [madeB]
  · intro j x hj
    rw [mkC_len]
    unfold mkM at hj
    split at hj
    · unfold mkO at hj; rw [List.take_zero] at hj; cases hj
    · unfold mkO at hj
      rw [List.getElem?_map] at hj
      cases hr : (outs.take (min outs.length 6))[j]? with
      | none => rw [hr] at hj; cases hj
      | some q =>
        rw [hr] at hj
        have := Option.some.inj hj
        rw [← this]
        exact valB_iff.2 ⟨Int.emod_nonneg _ (by omega), Int.emod_lt_of_pos _ (by omega)⟩
  · rw [mkC_len]
    unfold mkF
    split
    · rename_i h
      exact .inr (valB_iff.2 ⟨Int.emod_nonneg _ (by omega), Int.emod_lt_of_pos _ (by omega)⟩)
    · exact .inl rfl
theorem made_imm (ops az bs : List Int) (N : Nat) (hN : N ≤ 30) : ∀ x ∈ mkC ops az bs N, 0 ≤ x.2.2.2.2 ∧ x.2.2.2.2 < 4294967296 := by
  intro x hx
  unfold mkC at hx
  obtain ⟨k, hk, rfl⟩ := List.mem_map.1 hx
  simp at hk
  unfold mkI
  split
  · simp
  · simp; omega
end Ls
end Go.Proofs.Ytahikechkggbfaa
