/- Chapter 22: a stack is laid in a machine. -/
import Derived.Test.YtihacfclecanjaaNa
namespace Go.Proofs.Ytihacfclecanjaa
open Go Go.Ev Go.RowKit
set_option linter.unusedVariables false
set_option linter.unusedSimpArgs false
set_option maxRecDepth 100000
namespace Ls
noncomputable def f37b : Code := Try.f37.body.getD .skip
theorem f37_body : Try.f37.body = some f37b := by kernel_rfl
theorem f37_fn : T15.fn 37 = some Try.f37 := by kernel_rfl
theorem lay_s {g0 g1 g2 g3 g4 g5 g6 g7 g8 g9 g10 g11 g12 g13 g14 g15 at9 : Int} {M : List Int} {K : List II} {kw kc wn : Nat} {f ka : Nat} {l lj : List Int} {ro : Bool} (hwn : M.length = wn) (hf : f + 16 ≤ wn) (hml : wn < 100000) (hll : l.length < 4611686018427387904) : SCall Try.prog T15 37 #[.pointer (some ⟨0, 0, none⟩), .int .i64 (f : Int), .slice (some ⟨3, 0, none⟩) l.length ka] (hq [some ⟨[Value.int .u64 g0, .int .u64 g1, .int .u64 g2, .int .u64 g3, .int .u64 g4, .int .u64 g5, .int .u64 g6, .int .u64 g7, .int .u64 g8, .int .u64 g9, .int .u64 g10, .int .u64 g11, .int .u64 g12, .int .u64 g13, .int .u64 g14, .int .u64 g15, .slice (some ⟨1, 0, none⟩) wn kw, .slice (some ⟨2, 0, none⟩) K.length kc, .int .i64 at9], 86, false⟩, (uCo M false), (hhCo K false), (uCo (l ++ lj) ro)]) fun v h => v = .tuple #[] ∧ h = hq [some ⟨[Value.int .u64 g0, .int .u64 g1, .int .u64 g2, .int .u64 g3, .int .u64 g4, .int .u64 g5, .int .u64 g6, .int .u64 g7, .int .u64 g8, .int .u64 g9, .int .u64 g10, .int .u64 g11, .int .u64 g12, .int .u64 g13, .int .u64 g14, .int .u64 g15, .slice (some ⟨1, 0, none⟩) wn kw, .slice (some ⟨2, 0, none⟩) K.length kc, .int .i64 at9], 86, false⟩, (uCo (layL M f l 16) false), (hhCo K false), (uCo (l ++ lj) ro)] := by
 refine scall_sd 26 _ 4 kr f37_fn f37_body rfl rfl rfl fun X hX => ?_
 refine sd_run 6 ?_
 refine sd_loop 26 (cl (cl (cr f37b))) [.blk 0] kr kr kr (fun m9 s9 => ∃ (k : Nat), m9 = 16 - k ∧ (k ≤ 16) ∧ s9 = ⟨tmL [(0, .pointer (some ⟨0, 0, none⟩)), (1, .int .i64 (f : Int)), (2, .slice (some ⟨3, 0, none⟩) l.length ka), (8, .int .i64 (k : Int))], hq [some ⟨[Value.int .u64 g0, .int .u64 g1, .int .u64 g2, .int .u64 g3, .int .u64 g4, .int .u64 g5, .int .u64 g6, .int .u64 g7, .int .u64 g8, .int .u64 g9, .int .u64 g10, .int .u64 g11, .int .u64 g12, .int .u64 g13, .int .u64 g14, .int .u64 g15, .slice (some ⟨1, 0, none⟩) wn kw, .slice (some ⟨2, 0, none⟩) K.length kc, .int .i64 at9], 86, false⟩, (uCo (layL M f l k) false), (hhCo K false), (uCo (l ++ lj) ro)]⟩) (16 - 0) _ e4_ hX ⟨0, rfl, (by omega), rfl⟩ ⟨sub_of kr kr ⟨brn, bk_flat (tab uC M) kr (tab_plain uC_pl _) (congrArg (tab uC) (by rfl)), hhC_b, uC_b, ⟨⟩⟩, te_of kr kr⟩ kr ?_
 rintro m9 s9 ⟨k, rfl, i1_0, rfl⟩ R1_ hR1_
 by_cases hlt : k < 16
 ·skip
  by_cases hkl : k < l.length
  ·skip
   obtain ⟨a1, ha1⟩ : ∃ x_, (l)[k]? = some x_ := ⟨_, List.getElem?_eq_getElem (by first | omega | (simp; omega))⟩
   refine sd_run 3 (sdT 9 ((k : Int) < 16) (by omega) kr (sd_run 26 (sdT 14 ((k : Int) < (l.length : Int)) (by omega) kr (sd_run 6 (sd_ix 17 (.pointer (some ⟨3, 0 + k * 1, none⟩)) k l.length kr kr kr (by first | omega | (simp; omega)) (sd_ld 18 (.int .u32 a1) 22 (.pointer (some ⟨3, 0 + k * 1, none⟩)) kr kr kr (ld_cell (l := l ++ lj) (e := 22) (ro := ro) (k := k) (j := 0) uC_len kr kr kr (app_at ha1) rfl) (sd_run 8 ?_)))))))
   refine sd_see 22 (.int .i64 ((f + k : Nat) : Int)) (see_int (x := (IntKind.i64.wrap ((f : Int) + (k : Int)))) kr (w64 (by omega) (by omega) (by omega))) (sd_run 1 (sdC 24 17 #[.pointer (some ⟨0, 0, none⟩), .int .i64 (((f + k) : Nat) : Int), .int .u32 a1] (@setw_s g0 g1 g2 g3 g4 g5 g6 g7 g8 g9 g10 g11 g12 g13 g14 g15 at9 (layL M f l k) K kw kc wn (f + k) a1 (by simp; omega) (by omega)) i3_ ⟨brn, uC_b, hhC_b, ⟨⟩⟩ ?_))
   rintro hn9 v9 k9 ⟨rfl, rfl⟩
   refine mkG (.bool true) [some ⟨[Value.int .u64 g0, .int .u64 g1, .int .u64 g2, .int .u64 g3, .int .u64 g4, .int .u64 g5, .int .u64 g6, .int .u64 g7, .int .u64 g8, .int .u64 g9, .int .u64 g10, .int .u64 g11, .int .u64 g12, .int .u64 g13, .int .u64 g14, .int .u64 g15, .slice (some ⟨1, 0, none⟩) wn kw, .slice (some ⟨2, 0, none⟩) K.length kc, .int .i64 at9], 86, false⟩, (uCo ((layL M f l k).set (f + k) a1) false), (hhCo K false), (uCo (l ++ lj) ro)] ⟨cvs 0 hn9, uC_c 1, cvs 2 hn9, cvo, ⟨⟩⟩ ?_
   refine sd_run 5 (sd_see 25 (.int .i64 ((k + 1 : Nat) : Int)) (see_int (x := (IntKind.i64.wrap ((k : Int) + 1))) kr (w64 (by omega) (by omega) (by omega))) (sd_run 2 ?_))
   refine sd_inv R1_ kr (hR1_ _ (16 - (k + 1)) _ e4_ (by omega) ⟨k + 1, rfl, (by omega), rfl⟩ ⟨sub_of kr kr ⟨brn, bk_flat (tab uC ((layL M f l k).set (f + k) a1)) kr (tab_plain uC_pl _) (congrArg (tab uC) (by show _ = (layL M f l k).set (f + k) (l.getD k 0); rw [getD_row ha1])), hhC_b, uC_b, ⟨⟩⟩, te_of kr kr⟩ kr)
  ·skip
   refine sd_run 3 (sdT 9 ((k : Int) < 16) (by omega) kr (sd_run 26 (sdF 14 ((k : Int) < (l.length : Int)) (by omega) kr (sd_run 10 (sd_see 22 (.int .i64 ((f + k : Nat) : Int)) (see_int (x := (IntKind.i64.wrap ((f : Int) + (k : Int)))) kr (w64 (by omega) (by omega) (by omega))) (sd_run 1 (sdC 24 17 #[.pointer (some ⟨0, 0, none⟩), .int .i64 (((f + k) : Nat) : Int), .int .u32 0] (@setw_s g0 g1 g2 g3 g4 g5 g6 g7 g8 g9 g10 g11 g12 g13 g14 g15 at9 (layL M f l k) K kw kc wn (f + k) 0 (by simp; omega) (by omega)) i3_ ⟨brn, uC_b, hhC_b, ⟨⟩⟩ ?_)))))))
   rintro hn9 v9 k9 ⟨rfl, rfl⟩
   refine mkG (.bool true) [some ⟨[Value.int .u64 g0, .int .u64 g1, .int .u64 g2, .int .u64 g3, .int .u64 g4, .int .u64 g5, .int .u64 g6, .int .u64 g7, .int .u64 g8, .int .u64 g9, .int .u64 g10, .int .u64 g11, .int .u64 g12, .int .u64 g13, .int .u64 g14, .int .u64 g15, .slice (some ⟨1, 0, none⟩) wn kw, .slice (some ⟨2, 0, none⟩) K.length kc, .int .i64 at9], 86, false⟩, (uCo ((layL M f l k).set (f + k) 0) false), (hhCo K false), (uCo (l ++ lj) ro)] ⟨cvs 0 hn9, uC_c 1, cvs 2 hn9, cvo, ⟨⟩⟩ ?_
   refine sd_run 5 (sd_see 25 (.int .i64 ((k + 1 : Nat) : Int)) (see_int (x := (IntKind.i64.wrap ((k : Int) + 1))) kr (w64 (by omega) (by omega) (by omega))) (sd_run 2 ?_))
   refine sd_inv R1_ kr (hR1_ _ (16 - (k + 1)) _ e4_ (by omega) ⟨k + 1, rfl, (by omega), rfl⟩ ⟨sub_of kr kr ⟨brn, bk_flat (tab uC ((layL M f l k).set (f + k) 0)) kr (tab_plain uC_pl _) (congrArg (tab uC) (by show _ = (layL M f l k).set (f + k) (l.getD k 0); rw [getD_out (by omega)])), hhC_b, uC_b, ⟨⟩⟩, te_of kr kr⟩ kr)
 ·skip
  obtain rfl : k = 16 := by omega
  refine sd_run 3 (sdF 9 (((16 : Nat) : Int) < 16) (by omega) kr (sd_run 8 ?_))
  refine sdY (.tuple #[]) hX [some ⟨[Value.int .u64 g0, .int .u64 g1, .int .u64 g2, .int .u64 g3, .int .u64 g4, .int .u64 g5, .int .u64 g6, .int .u64 g7, .int .u64 g8, .int .u64 g9, .int .u64 g10, .int .u64 g11, .int .u64 g12, .int .u64 g13, .int .u64 g14, .int .u64 g15, .slice (some ⟨1, 0, none⟩) wn kw, .slice (some ⟨2, 0, none⟩) K.length kc, .int .i64 at9], 86, false⟩, (uCo (layL M f l 16) false), (hhCo K false), (uCo (l ++ lj) ro)] i4_ ⟨brn, uC_b, hhC_b, uC_b, ⟨⟩⟩ ⟨rfl, rfl⟩
end Ls
end Go.Proofs.Ytihacfclecanjaa
