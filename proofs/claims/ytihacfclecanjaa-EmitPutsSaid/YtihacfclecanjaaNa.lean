/- Chapter 22: machines. -/
import Derived.Test.YtihacfclecanjaaJg
namespace Go.Proofs.Ytihacfclecanjaa
open Go Go.Ev Go.RowKit
set_option linter.unusedVariables false
set_option linter.unusedSimpArgs false
set_option maxRecDepth 100000
namespace Ls
def layL (M : List Int) (f : Nat) (l : List Int) : Nat → List Int
 | 0 => M
 | k + 1 => (layL M f l k).set (f + k) (l.getD k 0)
@[simp] theorem layL_len (M : List Int) (f : Nat) (l : List Int) : ∀ k, (layL M f l k).length = M.length
 | 0 => rfl
 | k + 1 => by unfold layL; rw [List.length_set]; exact layL_len M f l k
def putM (M d r : List Int) (pc fl : Int) : List Int := (layL (layL ((((M.set 0 pc).set 1 fl).set 2 (d.length : Int)).set 3 (r.length : Int)) 4 d 16) 20 r 16).set 36 0
def takeM (M : List Int) (f n : Nat) : List Int := (List.range n).map fun k => M.getD (f + k) 0
theorem takeM_succ (M : List Int) (f n : Nat) : takeM M f n ++ [M.getD (f + n) 0] = takeM M f (n + 1) := by unfold takeM; rw [List.range_succ, List.map_append]; rfl
@[simp] theorem takeM_len (M : List Int) (f n : Nat) : (takeM M f n).length = n := by simp [takeM]
theorem getD_row {l : List Int} {k : Nat} {x : Int} (h : l[k]? = some x) : l.getD k 0 = x := by rw [List.getD_eq_getElem?_getD, h]; rfl
theorem getD_out {l : List Int} {k : Nat} (h : l.length ≤ k) : l.getD k 0 = 0 := by rw [List.getD_eq_getElem?_getD, List.getElem?_eq_none h]; rfl
noncomputable def f35b : Code := Try.f35.body.getD .skip
theorem f35_body : Try.f35.body = some f35b := by kernel_rfl
theorem f35_fn : T15.fn 35 = some Try.f35 := by kernel_rfl
theorem words_s {g0 g1 g2 g3 g4 g5 g6 g7 g8 g9 g10 g11 g12 g13 g14 g15 at9 : Int} {M : List Int} {K : List II} {kw kc wn : Nat}  : SCall Try.prog T15 35 #[.pointer (some ⟨0, 0, none⟩)] (hq [some ⟨[Value.int .u64 g0, .int .u64 g1, .int .u64 g2, .int .u64 g3, .int .u64 g4, .int .u64 g5, .int .u64 g6, .int .u64 g7, .int .u64 g8, .int .u64 g9, .int .u64 g10, .int .u64 g11, .int .u64 g12, .int .u64 g13, .int .u64 g14, .int .u64 g15, .slice (some ⟨1, 0, none⟩) wn kw, .slice (some ⟨2, 0, none⟩) K.length kc, .int .i64 at9], 86, false⟩, (uCo M false), (hhCo K false)]) fun v h => v = .int .i64 (wn : Int) ∧ h = hq [some ⟨[Value.int .u64 g0, .int .u64 g1, .int .u64 g2, .int .u64 g3, .int .u64 g4, .int .u64 g5, .int .u64 g6, .int .u64 g7, .int .u64 g8, .int .u64 g9, .int .u64 g10, .int .u64 g11, .int .u64 g12, .int .u64 g13, .int .u64 g14, .int .u64 g15, .slice (some ⟨1, 0, none⟩) wn kw, .slice (some ⟨2, 0, none⟩) K.length kc, .int .i64 at9], 86, false⟩, (uCo M false), (hhCo K false)] := by
 refine scall_sd 8 _ 3 kr f35_fn f35_body rfl rfl rfl fun X hX => ?_
 refine sd_run 16 ?_
 refine sdY (.int .i64 (wn : Int)) hX [some ⟨[Value.int .u64 g0, .int .u64 g1, .int .u64 g2, .int .u64 g3, .int .u64 g4, .int .u64 g5, .int .u64 g6, .int .u64 g7, .int .u64 g8, .int .u64 g9, .int .u64 g10, .int .u64 g11, .int .u64 g12, .int .u64 g13, .int .u64 g14, .int .u64 g15, .slice (some ⟨1, 0, none⟩) wn kw, .slice (some ⟨2, 0, none⟩) K.length kc, .int .i64 at9], 86, false⟩, (uCo M false), (hhCo K false)] i3_ ⟨brn, uC_b, hhC_b, ⟨⟩⟩ ⟨rfl, rfl⟩
noncomputable def f16b : Code := Try.f16.body.getD .skip
theorem f16_body : Try.f16.body = some f16b := by kernel_rfl
theorem f16_fn : T15.fn 16 = some Try.f16 := by kernel_rfl
theorem word_s {g0 g1 g2 g3 g4 g5 g6 g7 g8 g9 g10 g11 g12 g13 g14 g15 at9 : Int} {M : List Int} {K : List II} {kw kc wn : Nat} {i : Nat} (hwn : M.length = wn) : SCall Try.prog T15 16 #[.pointer (some ⟨0, 0, none⟩), .int .i64 (i : Int)] (hq [some ⟨[Value.int .u64 g0, .int .u64 g1, .int .u64 g2, .int .u64 g3, .int .u64 g4, .int .u64 g5, .int .u64 g6, .int .u64 g7, .int .u64 g8, .int .u64 g9, .int .u64 g10, .int .u64 g11, .int .u64 g12, .int .u64 g13, .int .u64 g14, .int .u64 g15, .slice (some ⟨1, 0, none⟩) wn kw, .slice (some ⟨2, 0, none⟩) K.length kc, .int .i64 at9], 86, false⟩, (uCo M false), (hhCo K false)]) fun v h => v = .int .u32 (M.getD i 0) ∧ h = hq [some ⟨[Value.int .u64 g0, .int .u64 g1, .int .u64 g2, .int .u64 g3, .int .u64 g4, .int .u64 g5, .int .u64 g6, .int .u64 g7, .int .u64 g8, .int .u64 g9, .int .u64 g10, .int .u64 g11, .int .u64 g12, .int .u64 g13, .int .u64 g14, .int .u64 g15, .slice (some ⟨1, 0, none⟩) wn kw, .slice (some ⟨2, 0, none⟩) K.length kc, .int .i64 at9], 86, false⟩, (uCo M false), (hhCo K false)] := by
 by_cases hiM : i < wn
 ·skip
  obtain ⟨x9, hx9⟩ : ∃ x_, M[i]? = some x_ := ⟨_, List.getElem?_eq_getElem (by omega)⟩
  refine scall_sd 23 _ 3 kr f16_fn f16_body rfl rfl rfl fun X hX => ?_
  refine sd_run 10 (sdF 6 ((i : Int) < 0) (by omega) kr (sd_run 8 (sdF 14 ((i : Int) ≥ (wn : Int)) (by omega) kr (sd_run 13 (sd_ix 21 (.pointer (some ⟨1, 0 + i * 1, none⟩)) i wn kr kr kr (by first | omega | (simp; omega)) (sd_ld 22 (.int .u32 x9) 22 (.pointer (some ⟨1, 0 + i * 1, none⟩)) kr kr kr (ld_cell (l := M) (e := 22) (ro := false) (k := i) (j := 0) uC_len kr kr kr hx9 rfl) (sd_see 22 (.int .u32 (M.getD i 0)) (see_int (x := x9) kr (getD_row hx9).symm) ?_)))))))
  refine sd_run 4 ?_
  refine sdY (.int .u32 (M.getD i 0)) hX [some ⟨[Value.int .u64 g0, .int .u64 g1, .int .u64 g2, .int .u64 g3, .int .u64 g4, .int .u64 g5, .int .u64 g6, .int .u64 g7, .int .u64 g8, .int .u64 g9, .int .u64 g10, .int .u64 g11, .int .u64 g12, .int .u64 g13, .int .u64 g14, .int .u64 g15, .slice (some ⟨1, 0, none⟩) wn kw, .slice (some ⟨2, 0, none⟩) K.length kc, .int .i64 at9], 86, false⟩, (uCo M false), (hhCo K false)] i3_ ⟨brn, uC_b, hhC_b, ⟨⟩⟩ ⟨rfl, rfl⟩
 ·skip
  refine scall_sd 23 _ 3 kr f16_fn f16_body rfl rfl rfl fun X hX => ?_
  refine sd_run 3 (sd_see 4 (.int .u32 (M.getD i 0)) (see_int (x := 0) kr (getD_out (by omega)).symm) (sd_run 7 (sdF 6 ((i : Int) < 0) (by omega) kr (sd_run 8 (sdT 14 ((i : Int) ≥ (wn : Int)) (by omega) kr (sd_run 7 (sd_see 4 (.int .u32 (M.getD i 0)) (see_int (x := 0) kr (getD_out (by omega)).symm) ?_)))))))
  refine sd_run 4 ?_
  refine sdY (.int .u32 (M.getD i 0)) hX [some ⟨[Value.int .u64 g0, .int .u64 g1, .int .u64 g2, .int .u64 g3, .int .u64 g4, .int .u64 g5, .int .u64 g6, .int .u64 g7, .int .u64 g8, .int .u64 g9, .int .u64 g10, .int .u64 g11, .int .u64 g12, .int .u64 g13, .int .u64 g14, .int .u64 g15, .slice (some ⟨1, 0, none⟩) wn kw, .slice (some ⟨2, 0, none⟩) K.length kc, .int .i64 at9], 86, false⟩, (uCo M false), (hhCo K false)] i3_ ⟨brn, uC_b, hhC_b, ⟨⟩⟩ ⟨rfl, rfl⟩
noncomputable def f17b : Code := Try.f17.body.getD .skip
theorem f17_body : Try.f17.body = some f17b := by kernel_rfl
theorem f17_fn : T15.fn 17 = some Try.f17 := by kernel_rfl
theorem setw_s {g0 g1 g2 g3 g4 g5 g6 g7 g8 g9 g10 g11 g12 g13 g14 g15 at9 : Int} {M : List Int} {K : List II} {kw kc wn : Nat} {i : Nat} {vv : Int} (hwn : M.length = wn) (hi : i < wn) : SCall Try.prog T15 17 #[.pointer (some ⟨0, 0, none⟩), .int .i64 (i : Int), .int .u32 vv] (hq [some ⟨[Value.int .u64 g0, .int .u64 g1, .int .u64 g2, .int .u64 g3, .int .u64 g4, .int .u64 g5, .int .u64 g6, .int .u64 g7, .int .u64 g8, .int .u64 g9, .int .u64 g10, .int .u64 g11, .int .u64 g12, .int .u64 g13, .int .u64 g14, .int .u64 g15, .slice (some ⟨1, 0, none⟩) wn kw, .slice (some ⟨2, 0, none⟩) K.length kc, .int .i64 at9], 86, false⟩, (uCo M false), (hhCo K false)]) fun v h => v = .bool true ∧ h = hq [some ⟨[Value.int .u64 g0, .int .u64 g1, .int .u64 g2, .int .u64 g3, .int .u64 g4, .int .u64 g5, .int .u64 g6, .int .u64 g7, .int .u64 g8, .int .u64 g9, .int .u64 g10, .int .u64 g11, .int .u64 g12, .int .u64 g13, .int .u64 g14, .int .u64 g15, .slice (some ⟨1, 0, none⟩) wn kw, .slice (some ⟨2, 0, none⟩) K.length kc, .int .i64 at9], 86, false⟩, (uCo (M.set i vv) false), (hhCo K false)] := by
 refine scall_sd 25 _ 3 kr f17_fn f17_body rfl rfl rfl fun X hX => ?_
 refine sd_run 10 (sdF 8 ((i : Int) < 0) (by omega) kr (sd_run 8 (sdF 16 ((i : Int) ≥ (wn : Int)) (by omega) kr (sd_run 14 (sd_ix 24 (.pointer (some ⟨1, 0 + i * 1, none⟩)) i wn kr kr kr (by first | omega | (simp; omega)) ?_)))))
 obtain ⟨a1, ha1⟩ : ∃ x_, (M)[i]? = some x_ := ⟨_, List.getElem?_eq_getElem (by first | omega | (simp; omega))⟩
 refine sd_st 22 1 (0 + i * 1) (.int .u32 vv) (tab uC ((M).set i vv)) (cells := tab uC M) (e := 22) kr kr kr kr (st_cell (k := i) (j := 0) (a' := vv) uC_len kr kr ha1 kr rfl) (sd_run 8 ?_)
 refine sdY (.bool true) hX [some ⟨[Value.int .u64 g0, .int .u64 g1, .int .u64 g2, .int .u64 g3, .int .u64 g4, .int .u64 g5, .int .u64 g6, .int .u64 g7, .int .u64 g8, .int .u64 g9, .int .u64 g10, .int .u64 g11, .int .u64 g12, .int .u64 g13, .int .u64 g14, .int .u64 g15, .slice (some ⟨1, 0, none⟩) wn kw, .slice (some ⟨2, 0, none⟩) K.length kc, .int .i64 at9], 86, false⟩, (uCo (M.set i vv) false), (hhCo K false)] i3_ ⟨brn, bk_flat (tab uC ((M).set i vv)) kr (tab_plain uC_pl _) (by rfl), hhC_b, ⟨⟩⟩ ⟨rfl, rfl⟩
end Ls
end Go.Proofs.Ytihacfclecanjaa
