/- Chapter 22: machines. -/
import Derived.Test.YtihacfclecanjaaJg
set_option linter.unusedVariables false
set_option linter.unusedSimpArgs false
namespace Go.Proofs.Ytihacfclecanjaa
open Go Go.Ev Go.RowKit
set_option maxRecDepth 100000
namespace Ls
abbrev mcL (g0 g1 g2 g3 g4 g5 g6 g7 g8 g9 g10 g11 g12 g13 g14 g15 : Int) (w c : Value) (at9 : Int) : List Value := [.int .u64 g0, .int .u64 g1, .int .u64 g2, .int .u64 g3, .int .u64 g4, .int .u64 g5, .int .u64 g6, .int .u64 g7, .int .u64 g8, .int .u64 g9, .int .u64 g10, .int .u64 g11, .int .u64 g12, .int .u64 g13, .int .u64 g14, .int .u64 g15, w, c, .int .i64 at9]
def layL (M : List Int) (f : Nat) (l : List Int) : Nat → List Int
 | 0 => M
 | k + 1 => (layL M f l k).set (f + k) (l.getD k 0)
@[simp] theorem layL_len (M : List Int) (f : Nat) (l : List Int) : ∀ k, (layL M f l k).length = M.length
 | 0 => rfl
 | k + 1 => by unfold layL; rw [List.length_set]; exact layL_len M f l k
def putM (M d r : List Int) (pc fl : Int) : List Int := (layL (layL ((((M.set 0 pc).set 1 fl).set 2 (d.length : Int)).set 3 (r.length : Int)) 4 d 16) 20 r 16).set 36 0
def takeM (M : List Int) (f n : Nat) : List Int := (List.range n).map fun k => M.getD (f + k) 0
theorem takeM_succ (M : List Int) (f n : Nat) : takeM M f n ++ [M.getD (f + n) 0] = takeM M f (n + 1) := by unfold takeM; rw [List.range_succ, List.map_append]; rfl
@[simp] theorem takeM_len (M : List Int) (f n : Nat) : (takeM M f n).length = n := by simp [takeM]
theorem getD_row {l : List Int} {k : Nat} {x : Int} (h : l[k]? = some x) : l.getD k 0 = x := by rw [List.getD_eq_getElem?_getD, h]; rfl
theorem getD_out {l : List Int} {k : Nat} (h : l.length ≤ k) : l.getD k 0 = 0 := by rw [List.getD_eq_getElem?_getD, List.getElem?_eq_none h]; rfl
noncomputable def f35b : Code := Try.f35.body.getD .skip
theorem words_s {g0 g1 g2 g3 g4 g5 g6 g7 g8 g9 g10 g11 g12 g13 g14 g15 at9 : Int} {M : List Int} {K : List II} {kw kc wn : Nat}  : SCall Try.prog T15 35 #[pT 0 0] (hq [oB 86 (mcL g0 g1 g2 g3 g4 g5 g6 g7 g8 g9 g10 g11 g12 g13 g14 g15 (sK 1 wn kw) (sK 2 K.length kc) at9), (uF M), (hhF K)]) fun v h => v = jI (wn : Int) ∧ h = hq [oB 86 (mcL g0 g1 g2 g3 g4 g5 g6 g7 g8 g9 g10 g11 g12 g13 g14 g15 (sK 1 wn kw) (sK 2 K.length kc) at9), (uF M), (hhF K)] := by
 refine zS Try.f35 f35b 8 3 fun X hX => ?_
 refine sd_run 16 ?_;refine zY (jI (wn : Int)) hX i3_ ⟨rfl, rfl⟩
noncomputable def f16b : Code := Try.f16.body.getD .skip
theorem word_s {g0 g1 g2 g3 g4 g5 g6 g7 g8 g9 g10 g11 g12 g13 g14 g15 at9 : Int} {M : List Int} {K : List II} {kw kc wn : Nat} {i : Nat} (hwn : M.length = wn) : SCall Try.prog T15 16 #[pT 0 0, jI (i : Int)] (hq [oB 86 (mcL g0 g1 g2 g3 g4 g5 g6 g7 g8 g9 g10 g11 g12 g13 g14 g15 (sK 1 wn kw) (sK 2 K.length kc) at9), (uF M), (hhF K)]) fun v h => v = jU (M.getD i 0) ∧ h = hq [oB 86 (mcL g0 g1 g2 g3 g4 g5 g6 g7 g8 g9 g10 g11 g12 g13 g14 g15 (sK 1 wn kw) (sK 2 K.length kc) at9), (uF M), (hhF K)] := by
 by_cases hiM : i < wn
 ·obtain ⟨x9, hx9⟩ := zR M i;refine zS Try.f16 f16b 23 3 fun X hX => ?_
  refine zF 10 6 ((i : Int) < 0) (zF 8 14 ((i : Int) ≥ (wn : Int)) (zX 13 21 (pT 1 (0 + i * 1)) i wn (zL 0 22 (jU x9) 22 1 0 22 false uC_len hx9 (sd_see 22 (jU (M.getD i 0)) (see_int (x := x9) kr (getD_row hx9).symm) ?_))));refine sd_run 4 ?_;refine zY (jU (M.getD i 0)) hX i3_ ⟨rfl, rfl⟩
 ·refine zS Try.f16 f16b 23 3 fun X hX => ?_
  refine sd_run 3 (sd_see 4 (jU (M.getD i 0)) (see_int (x := 0) kr (getD_out zo).symm) (zF 7 6 ((i : Int) < 0) (zT 8 14 ((i : Int) ≥ (wn : Int)) (sd_run 7 (sd_see 4 (jU (M.getD i 0)) (see_int (x := 0) kr (getD_out zo).symm) ?_)))));refine sd_run 4 ?_;refine zY (jU (M.getD i 0)) hX i3_ ⟨rfl, rfl⟩
noncomputable def f17b : Code := Try.f17.body.getD .skip
theorem setw_s {g0 g1 g2 g3 g4 g5 g6 g7 g8 g9 g10 g11 g12 g13 g14 g15 at9 : Int} {M : List Int} {K : List II} {kw kc wn : Nat} {i : Nat} {vv : Int} (hwn : M.length = wn) (hi : i < wn) : SCall Try.prog T15 17 #[pT 0 0, jI (i : Int), jU vv] (hq [oB 86 (mcL g0 g1 g2 g3 g4 g5 g6 g7 g8 g9 g10 g11 g12 g13 g14 g15 (sK 1 wn kw) (sK 2 K.length kc) at9), (uF M), (hhF K)]) fun v h => v = .bool true ∧ h = hq [oB 86 (mcL g0 g1 g2 g3 g4 g5 g6 g7 g8 g9 g10 g11 g12 g13 g14 g15 (sK 1 wn kw) (sK 2 K.length kc) at9), (uF (M.set i vv)), (hhF K)] := by
 refine zS Try.f17 f17b 25 3 fun X hX => ?_
 refine zF 10 8 ((i : Int) < 0) (zF 8 16 ((i : Int) ≥ (wn : Int)) (zX 14 24 (pT 1 (0 + i * 1)) i wn ?_));obtain ⟨a1, ha1⟩ := zR M i;refine sd_st 22 1 (0 + i * 1) (jU vv) (tab uC ((M).set i vv)) (cells := tab uC M) (e := 22) kr kr kr kr (st_cell (k := i) (j := 0) (a' := vv) uC_len kr kr ha1 kr rfl) (sd_run 8 ?_);refine sdY (.bool true) hX [oB 86 (mcL g0 g1 g2 g3 g4 g5 g6 g7 g8 g9 g10 g11 g12 g13 g14 g15 (sK 1 wn kw) (sK 2 K.length kc) at9), (uF (M.set i vv)), (hhF K)] i3_ ⟨brn, bk_flat (tab uC ((M).set i vv)) kr (tab_plain uC_pl _) (by rfl), hhC_b, ⟨⟩⟩ ⟨rfl, rfl⟩
end Ls
end Go.Proofs.Ytihacfclecanjaa
