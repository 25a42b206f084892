/- Chapter 22: a stack is taken from a machine. -/
import Derived.Test.YtihacfclecanjaaNa
set_option linter.unusedVariables false
set_option linter.unusedSimpArgs false
namespace Go.Proofs.Ytihacfclecanjaa
open Go Go.Ev Go.RowKit
set_option maxRecDepth 100000
namespace Ls
noncomputable def f40b : Code := Try.f40.body.getD .skip
theorem taken_s {g0 g1 g2 g3 g4 g5 g6 g7 g8 g9 g10 g11 g12 g13 g14 g15 at9 : Int} {M : List Int} {K : List II} {kw kc wn : Nat} {f n : Nat} (hwn : M.length = wn) (hf : f < 1000) (hn : n ≤ 16) : SCall Try.prog T15 40 #[pT 0 0, jI (f : Int), jU (n : Int)] (hq [oB 86 (mcL g0 g1 g2 g3 g4 g5 g6 g7 g8 g9 g10 g11 g12 g13 g14 g15 (sK 1 wn kw) (sK 2 K.length kc) at9), (uF M), (hhF K)]) fun v h => v = (s1 3 ((takeM M f n).length)) ∧ h = hq [oB 86 (mcL g0 g1 g2 g3 g4 g5 g6 g7 g8 g9 g10 g11 g12 g13 g14 g15 (sK 1 wn kw) (sK 2 K.length kc) at9), (uF M), (hhF K), (uF (takeM M f n))] := by
 refine zS Try.f40 f40b 24 3 fun X hX => ?_
 refine zI 15 10 .i64 (n : Int) (IntKind.i64.wrap (n : Int)) (sd_run 4 ?_);refine sd_loop 24 (cl (cl (cr (cl (cr (cr f40b)))))) [.blk 0, .next (cr (cr (cr f40b)))] kr kr kr (fun m9 s9 => ∃ (k : Nat), m9 = n - k ∧ (k ≤ n) ∧ s9 = ⟨tmL [(0, pT 0 0), (1, jI (f : Int)), (7, (s1 3 ((takeM M f k).length))), (10, jI (n : Int)), (11, jI (k : Int))], hq [oB 86 (mcL g0 g1 g2 g3 g4 g5 g6 g7 g8 g9 g10 g11 g12 g13 g14 g15 (sK 1 wn kw) (sK 2 K.length kc) at9), (uF M), (hhF K), (uF (takeM M f k))]⟩) (n - 0) _ (emOf (eM [1,2,3,0])) hX ⟨0, rfl, zo, rfl⟩ ⟨zs, zt⟩ kr ?_;rintro m9 s9 ⟨k, rfl, i1_0, rfl⟩ R1_ hR1_
 by_cases hlt : k < n
 ·have htl : (takeM M f k).length = k := by simp
  refine zT 3 12 ((k : Int) < (n : Int)) (zI 20 18 .i64 ((f + k : Nat) : Int) (IntKind.i64.wrap ((f : Int) + (k : Int))) (zG 19 16 #[pT 0 0, jI (((f + k) : Nat) : Int)] (@word_s g0 g1 g2 g3 g4 g5 g6 g7 g8 g9 g10 g11 g12 g13 g14 g15 at9 M K kw kc wn (f + k) hwn) i3_ ?_));rintro v9 k9 ⟨rfl, rfl⟩;refine ⟨rfl, jU (M.getD (f + k) 0), kr, ?_⟩;refine sd_run 1 (sd_grow 21 32 32 22 0 3 3 ((takeM M f k).length) 1 5 (sK 4 1 1) (tab uC (takeM M f k)) [jU (M.getD (f + k) 0)] (tab uC ((takeM M f k) ++ [(M.getD (f + k) 0)])) kr kr kr kr kr ((tab_len uC_len _).trans (by first | rfl | (simp only [List.length_append, List.length_cons, List.length_nil, List.length_set] at *; done))) kr kr (by decide) kr zo kr (tab_snoc (takeM M f k) (M.getD (f + k) 0)) (sd_see 21 (s1 5 (((takeM M f k) ++ [(M.getD (f + k) 0)]).length)) (see_len (n := ((takeM M f k).length + 1)) kr (by simp)) (zI 6 22 .i64 ((k + 1 : Nat) : Int) (IntKind.i64.wrap ((k : Int) + 1)) (sd_run 2 (sd_see 7 (s1 5 ((takeM M f (k + 1)).length)) (see_len (n := ((takeM M f k) ++ [(M.getD (f + k) 0)]).length) kr (by simp)) ?_)))));refine sd_inv R1_ kr (hR1_ _ (n - (k + 1)) _ (emOf (eM [1,2,3,6])) zo ⟨k + 1, rfl, zo, rfl⟩ ⟨sub_of kr kr ⟨brn, uC_b, hhC_b, bk_flat (tab uC ((takeM M f k) ++ [(M.getD (f + k) 0)])) kr (tab_plain uC_pl _) (congrArg (tab uC) (takeM_succ M f k)), ⟨⟩⟩, zt⟩ kr)
 ·obtain rfl : n = k := by omega
  refine zF 3 12 ((n : Int) < (n : Int)) (sd_run 16 ?_);refine zY (s1 3 ((takeM M f n).length)) hX i4_ ⟨rfl, rfl⟩
end Ls
end Go.Proofs.Ytihacfclecanjaa
