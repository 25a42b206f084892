/- Chapter 22: a stack is taken from a machine. -/
import Derived.Test.YtihacfclecanjaaNa
namespace Go.Proofs.Ytihacfclecanjaa
open Go Go.Ev Go.RowKit
set_option linter.unusedVariables false
set_option linter.unusedSimpArgs false
set_option maxRecDepth 100000
namespace Ls
noncomputable def f40b : Code := Try.f40.body.getD .skip
theorem f40_body : Try.f40.body = some f40b := by kernel_rfl
theorem f40_fn : T15.fn 40 = some Try.f40 := by kernel_rfl
theorem taken_s {g0 g1 g2 g3 g4 g5 g6 g7 g8 g9 g10 g11 g12 g13 g14 g15 at9 : Int} {M : List Int} {K : List II} {kw kc wn : Nat} {f n : Nat} (hwn : M.length = wn) (hf : f < 1000) (hn : n ≤ 16) : SCall Try.prog T15 40 #[.pointer (some ⟨0, 0, none⟩), .int .i64 (f : Int), .int .u32 (n : Int)] (hq [some ⟨[Value.int .u64 g0, .int .u64 g1, .int .u64 g2, .int .u64 g3, .int .u64 g4, .int .u64 g5, .int .u64 g6, .int .u64 g7, .int .u64 g8, .int .u64 g9, .int .u64 g10, .int .u64 g11, .int .u64 g12, .int .u64 g13, .int .u64 g14, .int .u64 g15, .slice (some ⟨1, 0, none⟩) wn kw, .slice (some ⟨2, 0, none⟩) K.length kc, .int .i64 at9], 86, false⟩, (uCo M false), (hhCo K false)]) fun v h => v = (s1 3 ((takeM M f n).length)) ∧ h = hq [some ⟨[Value.int .u64 g0, .int .u64 g1, .int .u64 g2, .int .u64 g3, .int .u64 g4, .int .u64 g5, .int .u64 g6, .int .u64 g7, .int .u64 g8, .int .u64 g9, .int .u64 g10, .int .u64 g11, .int .u64 g12, .int .u64 g13, .int .u64 g14, .int .u64 g15, .slice (some ⟨1, 0, none⟩) wn kw, .slice (some ⟨2, 0, none⟩) K.length kc, .int .i64 at9], 86, false⟩, (uCo M false), (hhCo K false), (uCo (takeM M f n) false)] := by
 refine scall_sd 24 _ 3 kr f40_fn f40_body rfl rfl rfl fun X hX => ?_
 refine sd_run 15 (sd_see 10 (.int .i64 (n : Int)) (see_int (x := (IntKind.i64.wrap (n : Int))) kr (w64 rfl (by omega) (by omega))) (sd_run 4 ?_))
 refine sd_loop 24 (cl (cl (cr (cl (cr (cr f40b)))))) [.blk 0, .next (cr (cr (cr f40b)))] kr kr kr (fun m9 s9 => ∃ (k : Nat), m9 = n - k ∧ (k ≤ n) ∧ s9 = ⟨tmL [(0, .pointer (some ⟨0, 0, none⟩)), (1, .int .i64 (f : Int)), (7, (s1 3 ((takeM M f k).length))), (10, .int .i64 (n : Int)), (11, .int .i64 (k : Int))], hq [some ⟨[Value.int .u64 g0, .int .u64 g1, .int .u64 g2, .int .u64 g3, .int .u64 g4, .int .u64 g5, .int .u64 g6, .int .u64 g7, .int .u64 g8, .int .u64 g9, .int .u64 g10, .int .u64 g11, .int .u64 g12, .int .u64 g13, .int .u64 g14, .int .u64 g15, .slice (some ⟨1, 0, none⟩) wn kw, .slice (some ⟨2, 0, none⟩) K.length kc, .int .i64 at9], 86, false⟩, (uCo M false), (hhCo K false), (uCo (takeM M f k) false)]⟩) (n - 0) _ (emOf [some 0, some 1, some 2, none]) hX ⟨0, rfl, (by omega), rfl⟩ ⟨sub_of kr kr ⟨brn, uC_b, hhC_b, rfl, ⟨⟩⟩, te_of kr kr⟩ kr ?_
 rintro m9 s9 ⟨k, rfl, i1_0, rfl⟩ R1_ hR1_
 by_cases hlt : k < n
 ·skip
  have htl : (takeM M f k).length = k := by simp
  refine sd_run 3 (sdT 12 ((k : Int) < (n : Int)) (by omega) kr (sd_run 20 (sd_see 18 (.int .i64 ((f + k : Nat) : Int)) (see_int (x := (IntKind.i64.wrap ((f : Int) + (k : Int)))) kr (w64 (by omega) (by omega) (by omega))) (sdCp 19 16 #[.pointer (some ⟨0, 0, none⟩), .int .i64 (((f + k) : Nat) : Int)] (@word_s g0 g1 g2 g3 g4 g5 g6 g7 g8 g9 g10 g11 g12 g13 g14 g15 at9 M K kw kc wn (f + k) hwn) i3_ ⟨brn, uC_b, hhC_b, ⟨⟩⟩ ?_))))
  rintro v9 k9 ⟨rfl, rfl⟩
  refine ⟨rfl, .int .u32 (M.getD (f + k) 0), kr, ?_⟩
  refine sd_run 1 (sd_grow 21 32 32 22 0 3 3 ((takeM M f k).length) 1 5 (.slice (some ⟨4, 0, none⟩) 1 1) (tab uC (takeM M f k)) [Value.int .u32 (M.getD (f + k) 0)] (tab uC ((takeM M f k) ++ [(M.getD (f + k) 0)])) kr kr kr kr kr ((tab_len uC_len _).trans (by first | rfl | (simp only [List.length_append, List.length_cons, List.length_nil, List.length_set] at *; done))) kr kr (by decide) kr (by omega) kr (tab_snoc (takeM M f k) (M.getD (f + k) 0)) (sd_see 21 (s1 5 (((takeM M f k) ++ [(M.getD (f + k) 0)]).length)) (see_len (n := ((takeM M f k).length + 1)) kr (by simp)) (sd_run 6 (sd_see 22 (.int .i64 ((k + 1 : Nat) : Int)) (see_int (x := (IntKind.i64.wrap ((k : Int) + 1))) kr (w64 (by omega) (by omega) (by omega))) (sd_run 2 (sd_see 7 (s1 5 ((takeM M f (k + 1)).length)) (see_len (n := ((takeM M f k) ++ [(M.getD (f + k) 0)]).length) kr (by simp)) ?_))))))
  refine sd_inv R1_ kr (hR1_ _ (n - (k + 1)) _ (emOf [some 0, some 1, some 2, some 5]) (by omega) ⟨k + 1, rfl, (by omega), rfl⟩ ⟨sub_of kr kr ⟨brn, uC_b, hhC_b, bk_flat (tab uC ((takeM M f k) ++ [(M.getD (f + k) 0)])) kr (tab_plain uC_pl _) (congrArg (tab uC) (takeM_succ M f k)), ⟨⟩⟩, te_of kr kr⟩ kr)
 ·skip
  obtain rfl : n = k := by omega
  refine sd_run 3 (sdF 12 ((n : Int) < (n : Int)) (by omega) kr (sd_run 16 ?_))
  refine sdY (s1 3 ((takeM M f n).length)) hX [some ⟨[Value.int .u64 g0, .int .u64 g1, .int .u64 g2, .int .u64 g3, .int .u64 g4, .int .u64 g5, .int .u64 g6, .int .u64 g7, .int .u64 g8, .int .u64 g9, .int .u64 g10, .int .u64 g11, .int .u64 g12, .int .u64 g13, .int .u64 g14, .int .u64 g15, .slice (some ⟨1, 0, none⟩) wn kw, .slice (some ⟨2, 0, none⟩) K.length kc, .int .i64 at9], 86, false⟩, (uCo M false), (hhCo K false), (uCo (takeM M f n) false)] i4_ ⟨brn, uC_b, hhC_b, uC_b, ⟨⟩⟩ ⟨rfl, rfl⟩
end Ls
end Go.Proofs.Ytihacfclecanjaa
