/- Chapter 22: a state is got from a machine. -/
import Derived.Test.YtihacfclecanjaaNd
import Derived.Test.YtihacfclecanjaaJe
namespace Go.Proofs.Ytihacfclecanjaa
open Go Go.Ev Go.RowKit
set_option linter.unusedVariables false
set_option linter.unusedSimpArgs false
set_option maxRecDepth 100000
namespace Ls
noncomputable def f14b : Code := Try.f14.body.getD .skip
theorem f14_body : Try.f14.body = some f14b := by kernel_rfl
theorem f14_fn : T15.fn 14 = some Try.f14 := by kernel_rfl
set_option maxHeartbeats 1000000 in
theorem eget_ok {g0 g1 g2 g3 g4 g5 g6 g7 g8 g9 g10 g11 g12 g13 g14 g15 at9 : Int} {M : List Int} {K : List II} {kw kc wn : Nat} {q : Sx} {d dj r rj : List Int} {ro : Bool} {ka kb : Nat} {n2 n3 : Nat} (hwn : M.length = wn) (hdb : d.length * 4 ≤ 140737488355328) (hrb : r.length * 4 ≤ 140737488355328) (hM : ∀ i, 0 ≤ M.getD i 0 ∧ M.getD i 0 < 4294967296) (h256 : wn = 256) (h2 : (M.getD 2 0) = (n2 : Int)) (h3 : (M.getD 3 0) = (n3 : Int)) (h2b : n2 ≤ 16) (h3b : n3 ≤ 16) (h1 : (M.getD 1 0) ≤ 15) : SCall Try.prog T15 14 #[.pointer (some ⟨0, 0, none⟩), (stq q q.pc (.slice (some ⟨3, 0, none⟩) d.length ka) (.slice (some ⟨4, 0, none⟩) r.length kb) q.fl q.cnt)] (hq [some ⟨[Value.int .u64 g0, .int .u64 g1, .int .u64 g2, .int .u64 g3, .int .u64 g4, .int .u64 g5, .int .u64 g6, .int .u64 g7, .int .u64 g8, .int .u64 g9, .int .u64 g10, .int .u64 g11, .int .u64 g12, .int .u64 g13, .int .u64 g14, .int .u64 g15, .slice (some ⟨1, 0, none⟩) wn kw, .slice (some ⟨2, 0, none⟩) K.length kc, .int .i64 at9], 86, false⟩, (uCo M false), (hhCo K false), (uCo (d ++ dj) ro), (uCo (r ++ rj) ro)]) fun v h => v = .tuple #[(stq q (M.getD 0 0) (s1 5 ((takeM M 4 n2).length)) (s1 6 ((takeM M 20 n3).length)) (M.getD 1 0) (IntKind.u64.wrap (q.cnt + (M.getD 36 0)))), .bool true] ∧ h = hq [some ⟨[Value.int .u64 g0, .int .u64 g1, .int .u64 g2, .int .u64 g3, .int .u64 g4, .int .u64 g5, .int .u64 g6, .int .u64 g7, .int .u64 g8, .int .u64 g9, .int .u64 g10, .int .u64 g11, .int .u64 g12, .int .u64 g13, .int .u64 g14, .int .u64 g15, .slice (some ⟨1, 0, none⟩) wn kw, .slice (some ⟨2, 0, none⟩) K.length kc, .int .i64 at9], 86, false⟩, (uCo M false), (hhCo K false), (uCo (d ++ dj) ro), (uCo (r ++ rj) ro), (uCo (takeM M 4 n2) false), (uCo (takeM M 20 n3) false)] := by
 have hM36 := hM 36
 refine scall_sd 55 _ 5 kr f14_fn f14_body rfl rfl rfl fun X hX => ?_
 refine sd_run 10 (sdC 7 39 #[(stq q q.pc (.slice (some ⟨3, 0, none⟩) d.length ka) (.slice (some ⟨4, 0, none⟩) r.length kb) q.fl q.cnt)] (@copy_s q d dj r rj ka kb ro hdb hrb) [some 3, some 4] ⟨uC_b, uC_b, ⟨⟩⟩ ?_)
 rintro hn9 v9 k9 ⟨rfl, rfl⟩
 refine mkG (stq q q.pc (s1 7 d.length) (s1 8 r.length) q.fl q.cnt) [some ⟨[Value.int .u64 g0, .int .u64 g1, .int .u64 g2, .int .u64 g3, .int .u64 g4, .int .u64 g5, .int .u64 g6, .int .u64 g7, .int .u64 g8, .int .u64 g9, .int .u64 g10, .int .u64 g11, .int .u64 g12, .int .u64 g13, .int .u64 g14, .int .u64 g15, .slice (some ⟨1, 0, none⟩) wn kw, .slice (some ⟨2, 0, none⟩) K.length kc, .int .i64 at9], 86, false⟩, (uCo M false), (hhCo K false), (uCo (d ++ dj) ro), (uCo (r ++ rj) ro), some ⟨(slq q q.pc (.slice (some ⟨3, 0, none⟩) d.length ka) (.slice (some ⟨4, 0, none⟩) r.length kb) q.fl q.cnt), 35, false⟩, some ⟨(slw 0 (.slice none 0 0) (.slice none 0 0) 0 false false false 0 0 0 0 0 false false 0 false), 35, false⟩, (uCo d false), (uCo r false)] ⟨cvo, cvo, cvo, cvs 0 hn9, cvs 1 hn9, cvo, cvo, uC_c 2, uC_c 3, ⟨⟩⟩ ?_
 refine sd_run 10 (sdCp 12 35 #[.pointer (some ⟨0, 0, none⟩)] (@words_s g0 g1 g2 g3 g4 g5 g6 g7 g8 g9 g10 g11 g12 g13 g14 g15 at9 M K kw kc wn ) i3_ ⟨brn, uC_b, hhC_b, ⟨⟩⟩ ?_)
 rintro v9 k9 ⟨rfl, rfl⟩
 refine ⟨rfl, .int .i64 (wn : Int), kr, ?_⟩
 refine sd_run 1 (sdQ 13 (wn : Int) 256 (by omega) kr (sd_run 3 (sdCp 17 16 #[.pointer (some ⟨0, 0, none⟩), .int .i64 2] (@word_s g0 g1 g2 g3 g4 g5 g6 g7 g8 g9 g10 g11 g12 g13 g14 g15 at9 M K kw kc wn 2 hwn) i3_ ⟨brn, uC_b, hhC_b, ⟨⟩⟩ ?_)))
 rintro v9 k9 ⟨rfl, rfl⟩
 refine ⟨rfl, .int .u32 (M.getD 2 0), kr, ?_⟩
 refine sd_run 1 (sd_see 18 (.bool false) (see_bool (x := (decide (((M.getD 2 0) : Int) > 16))) kr (decide_eq_false (by omega))) (sd_run 3 (sdCp 22 16 #[.pointer (some ⟨0, 0, none⟩), .int .i64 3] (@word_s g0 g1 g2 g3 g4 g5 g6 g7 g8 g9 g10 g11 g12 g13 g14 g15 at9 M K kw kc wn 3 hwn) i3_ ⟨brn, uC_b, hhC_b, ⟨⟩⟩ ?_)))
 rintro v9 k9 ⟨rfl, rfl⟩
 refine ⟨rfl, .int .u32 (M.getD 3 0), kr, ?_⟩
 refine sd_run 1 (sd_see 23 (.bool false) (see_bool (x := (decide (((M.getD 3 0) : Int) > 16))) kr (decide_eq_false (by omega))) (sd_run 3 (sdCp 27 16 #[.pointer (some ⟨0, 0, none⟩), .int .i64 1] (@word_s g0 g1 g2 g3 g4 g5 g6 g7 g8 g9 g10 g11 g12 g13 g14 g15 at9 M K kw kc wn 1 hwn) i3_ ⟨brn, uC_b, hhC_b, ⟨⟩⟩ ?_)))
 rintro v9 k9 ⟨rfl, rfl⟩
 refine ⟨rfl, .int .u32 (M.getD 1 0), kr, ?_⟩
 refine sd_run 1 (sd_see 28 (.bool false) (see_bool (x := (decide (((M.getD 1 0) : Int) > 15))) kr (decide_eq_false (by omega))) (sd_run 9 (sdCp 32 16 #[.pointer (some ⟨0, 0, none⟩), .int .i64 0] (@word_s g0 g1 g2 g3 g4 g5 g6 g7 g8 g9 g10 g11 g12 g13 g14 g15 at9 M K kw kc wn 0 hwn) i3_ ⟨brn, uC_b, hhC_b, ⟨⟩⟩ ?_)))
 rintro v9 k9 ⟨rfl, rfl⟩
 refine ⟨rfl, .int .u32 (M.getD 0 0), kr, ?_⟩
 refine sd_run 1 (sdCp 34 16 #[.pointer (some ⟨0, 0, none⟩), .int .i64 1] (@word_s g0 g1 g2 g3 g4 g5 g6 g7 g8 g9 g10 g11 g12 g13 g14 g15 at9 M K kw kc wn 1 hwn) i3_ ⟨brn, uC_b, hhC_b, ⟨⟩⟩ ?_)
 rintro v9 k9 ⟨rfl, rfl⟩
 refine ⟨rfl, .int .u32 (M.getD 1 0), kr, ?_⟩
 refine sd_run 10 (sdCp 39 16 #[.pointer (some ⟨0, 0, none⟩), .int .i64 2] (@word_s g0 g1 g2 g3 g4 g5 g6 g7 g8 g9 g10 g11 g12 g13 g14 g15 at9 M K kw kc wn 2 hwn) i3_ ⟨brn, uC_b, hhC_b, ⟨⟩⟩ ?_)
 rintro v9 k9 ⟨rfl, rfl⟩
 refine ⟨rfl, .int .u32 (M.getD 2 0), kr, ?_⟩
 refine sd_see 39 (.int .u32 (n2 : Int)) (see_int (x := (M.getD 2 0)) kr h2) (sdC 40 40 #[.pointer (some ⟨0, 0, none⟩), .int .i64 4, .int .u32 (n2 : Int)] (@taken_s g0 g1 g2 g3 g4 g5 g6 g7 g8 g9 g10 g11 g12 g13 g14 g15 at9 M K kw kc wn 4 n2 hwn (by decide) (by omega)) i3_ ⟨brn, uC_b, hhC_b, ⟨⟩⟩ ?_)
 rintro hn9 v9 k9 ⟨rfl, rfl⟩
 refine mkG (s1 9 ((takeM M 4 n2).length)) [some ⟨[Value.int .u64 g0, .int .u64 g1, .int .u64 g2, .int .u64 g3, .int .u64 g4, .int .u64 g5, .int .u64 g6, .int .u64 g7, .int .u64 g8, .int .u64 g9, .int .u64 g10, .int .u64 g11, .int .u64 g12, .int .u64 g13, .int .u64 g14, .int .u64 g15, .slice (some ⟨1, 0, none⟩) wn kw, .slice (some ⟨2, 0, none⟩) K.length kc, .int .i64 at9], 86, false⟩, (uCo M false), (hhCo K false), (uCo (d ++ dj) ro), (uCo (r ++ rj) ro), some ⟨(slq q (M.getD 0 0) (s1 7 d.length) (s1 8 r.length) (M.getD 1 0) q.cnt), 35, false⟩, some ⟨(slw 0 (.slice none 0 0) (.slice none 0 0) 0 false false false 0 0 0 0 0 false false 0 false), 35, false⟩, (uCo d false), (uCo r false), (uCo (takeM M 4 n2) false)] ⟨cvs 0 hn9, cvs 1 hn9, cvs 2 hn9, cvo, cvo, cvo, cvo, cvo, cvo, uC_c 3, ⟨⟩⟩ ?_
 refine sd_run 2 (sdCp 43 16 #[.pointer (some ⟨0, 0, none⟩), .int .i64 3] (@word_s g0 g1 g2 g3 g4 g5 g6 g7 g8 g9 g10 g11 g12 g13 g14 g15 at9 M K kw kc wn 3 hwn) i3_ ⟨brn, uC_b, hhC_b, ⟨⟩⟩ ?_)
 rintro v9 k9 ⟨rfl, rfl⟩
 refine ⟨rfl, .int .u32 (M.getD 3 0), kr, ?_⟩
 refine sd_see 43 (.int .u32 (n3 : Int)) (see_int (x := (M.getD 3 0)) kr h3) (sdC 44 40 #[.pointer (some ⟨0, 0, none⟩), .int .i64 20, .int .u32 (n3 : Int)] (@taken_s g0 g1 g2 g3 g4 g5 g6 g7 g8 g9 g10 g11 g12 g13 g14 g15 at9 M K kw kc wn 20 n3 hwn (by decide) (by omega)) i3_ ⟨brn, uC_b, hhC_b, ⟨⟩⟩ ?_)
 rintro hn9 v9 k9 ⟨rfl, rfl⟩
 refine mkG (s1 10 ((takeM M 20 n3).length)) [some ⟨[Value.int .u64 g0, .int .u64 g1, .int .u64 g2, .int .u64 g3, .int .u64 g4, .int .u64 g5, .int .u64 g6, .int .u64 g7, .int .u64 g8, .int .u64 g9, .int .u64 g10, .int .u64 g11, .int .u64 g12, .int .u64 g13, .int .u64 g14, .int .u64 g15, .slice (some ⟨1, 0, none⟩) wn kw, .slice (some ⟨2, 0, none⟩) K.length kc, .int .i64 at9], 86, false⟩, (uCo M false), (hhCo K false), (uCo (d ++ dj) ro), (uCo (r ++ rj) ro), some ⟨(slq q (M.getD 0 0) (s1 7 d.length) (s1 8 r.length) (M.getD 1 0) q.cnt), 35, false⟩, some ⟨(slw 0 (.slice none 0 0) (.slice none 0 0) 0 false false false 0 0 0 0 0 false false 0 false), 35, false⟩, (uCo d false), (uCo r false), (uCo (takeM M 4 n2) false), (uCo (takeM M 20 n3) false)] ⟨cvs 0 hn9, cvs 1 hn9, cvs 2 hn9, cvo, cvo, cvo, cvo, cvo, cvo, cvo, uC_c 3, ⟨⟩⟩ ?_
 refine sd_run 7 (sd_drawQ [(1, 3)] kr kr ?_)
 refine sq_run 1 ?_
 refine sq_rd 48 (.int .u64 q.cnt) (.pointer (some ⟨5, 14, none⟩)) 33 kr kr kr kr (veq_int _ _) kr ?_
 refine sq_run 1 ?_
 refine sq_callp 50 16 #[.pointer (some ⟨0, 0, none⟩), .int .i64 36] (@word_s g0 g1 g2 g3 g4 g5 g6 g7 g8 g9 g10 g11 g12 g13 g14 g15 at9 M K kw kc wn 36 hwn) [some 0, some 1, some 2] kr kr kr (hn_of 0 kr ⟨brn, uC_b, hhC_b, ⟨⟩⟩) kr ⟨kr, kr, kr⟩ ?_
 rintro v9 k9 ⟨rfl, rfl⟩
 refine ⟨rfl, .int .u32 (M.getD 36 0), kr, ?_⟩
 refine sq_run 1 ?_
 refine sq_see 51 (.int .u64 (M.getD 36 0)) (see_int (x := IntKind.u64.wrap (M.getD 36 0)) kr (wu64 rfl (by omega) (by omega))) ?_
 refine sq_run 3 ?_
 refine sq_end kr ?_
 refine sd_run 9 ?_
 refine sdZ (.tuple #[(stq q (M.getD 0 0) (s1 9 ((takeM M 4 n2).length)) (s1 10 ((takeM M 20 n3).length)) (M.getD 1 0) (IntKind.u64.wrap (q.cnt + (M.getD 36 0)))), .bool true]) hX (.tuple #[(stq q (M.getD 0 0) (s1 5 ((takeM M 4 n2).length)) (s1 6 ((takeM M 20 n3).length)) (M.getD 1 0) (IntKind.u64.wrap (q.cnt + (M.getD 36 0)))), .bool true]) [some ⟨[Value.int .u64 g0, .int .u64 g1, .int .u64 g2, .int .u64 g3, .int .u64 g4, .int .u64 g5, .int .u64 g6, .int .u64 g7, .int .u64 g8, .int .u64 g9, .int .u64 g10, .int .u64 g11, .int .u64 g12, .int .u64 g13, .int .u64 g14, .int .u64 g15, .slice (some ⟨1, 0, none⟩) wn kw, .slice (some ⟨2, 0, none⟩) K.length kc, .int .i64 at9], 86, false⟩, (uCo M false), (hhCo K false), (uCo (d ++ dj) ro), (uCo (r ++ rj) ro), (uCo (takeM M 4 n2) false), (uCo (takeM M 20 n3) false)] [some 0, some 1, some 2, some 3, some 4, some 9, some 10] ⟨brn, uC_b, hhC_b, uC_b, uC_b, uC_b, uC_b, ⟨⟩⟩ ⟨rfl, rfl⟩
set_option maxHeartbeats 1000000 in
theorem eget_no {g0 g1 g2 g3 g4 g5 g6 g7 g8 g9 g10 g11 g12 g13 g14 g15 at9 : Int} {M : List Int} {K : List II} {kw kc wn : Nat} {q : Sx} {d dj r rj : List Int} {ro : Bool} {ka kb : Nat} (hwn : M.length = wn) (hdb : d.length * 4 ≤ 140737488355328) (hrb : r.length * 4 ≤ 140737488355328) (hM : ∀ i, 0 ≤ M.getD i 0 ∧ M.getD i 0 < 4294967296) (hml : wn < 100000) (hno : ¬ (wn = 256 ∧ (M.getD 2 0) ≤ 16 ∧ (M.getD 3 0) ≤ 16 ∧ (M.getD 1 0) ≤ 15)) : SCall Try.prog T15 14 #[.pointer (some ⟨0, 0, none⟩), (stq q q.pc (.slice (some ⟨3, 0, none⟩) d.length ka) (.slice (some ⟨4, 0, none⟩) r.length kb) q.fl q.cnt)] (hq [some ⟨[Value.int .u64 g0, .int .u64 g1, .int .u64 g2, .int .u64 g3, .int .u64 g4, .int .u64 g5, .int .u64 g6, .int .u64 g7, .int .u64 g8, .int .u64 g9, .int .u64 g10, .int .u64 g11, .int .u64 g12, .int .u64 g13, .int .u64 g14, .int .u64 g15, .slice (some ⟨1, 0, none⟩) wn kw, .slice (some ⟨2, 0, none⟩) K.length kc, .int .i64 at9], 86, false⟩, (uCo M false), (hhCo K false), (uCo (d ++ dj) ro), (uCo (r ++ rj) ro)]) fun v h => v = .tuple #[(stq q q.pc (s1 5 d.length) (s1 6 r.length) q.fl q.cnt), .bool false] ∧ h = hq [some ⟨[Value.int .u64 g0, .int .u64 g1, .int .u64 g2, .int .u64 g3, .int .u64 g4, .int .u64 g5, .int .u64 g6, .int .u64 g7, .int .u64 g8, .int .u64 g9, .int .u64 g10, .int .u64 g11, .int .u64 g12, .int .u64 g13, .int .u64 g14, .int .u64 g15, .slice (some ⟨1, 0, none⟩) wn kw, .slice (some ⟨2, 0, none⟩) K.length kc, .int .i64 at9], 86, false⟩, (uCo M false), (hhCo K false), (uCo (d ++ dj) ro), (uCo (r ++ rj) ro), (uCo d false), (uCo r false)] := by
 rcases (by omega : wn ≠ 256 ∨ (wn = 256 ∧ 16 < (M.getD 2 0)) ∨ (wn = 256 ∧ (M.getD 2 0) ≤ 16 ∧ 16 < (M.getD 3 0)) ∨ (wn = 256 ∧ (M.getD 2 0) ≤ 16 ∧ (M.getD 3 0) ≤ 16 ∧ 15 < (M.getD 1 0))) with hw | hw | hw | hw
 ·skip
  refine scall_sd 55 _ 5 kr f14_fn f14_body rfl rfl rfl fun X hX => ?_
  refine sd_run 10 (sdC 7 39 #[(stq q q.pc (.slice (some ⟨3, 0, none⟩) d.length ka) (.slice (some ⟨4, 0, none⟩) r.length kb) q.fl q.cnt)] (@copy_s q d dj r rj ka kb ro hdb hrb) [some 3, some 4] ⟨uC_b, uC_b, ⟨⟩⟩ ?_)
  rintro hn9 v9 k9 ⟨rfl, rfl⟩
  refine mkG (stq q q.pc (s1 7 d.length) (s1 8 r.length) q.fl q.cnt) [some ⟨[Value.int .u64 g0, .int .u64 g1, .int .u64 g2, .int .u64 g3, .int .u64 g4, .int .u64 g5, .int .u64 g6, .int .u64 g7, .int .u64 g8, .int .u64 g9, .int .u64 g10, .int .u64 g11, .int .u64 g12, .int .u64 g13, .int .u64 g14, .int .u64 g15, .slice (some ⟨1, 0, none⟩) wn kw, .slice (some ⟨2, 0, none⟩) K.length kc, .int .i64 at9], 86, false⟩, (uCo M false), (hhCo K false), (uCo (d ++ dj) ro), (uCo (r ++ rj) ro), some ⟨(slq q q.pc (.slice (some ⟨3, 0, none⟩) d.length ka) (.slice (some ⟨4, 0, none⟩) r.length kb) q.fl q.cnt), 35, false⟩, some ⟨(slw 0 (.slice none 0 0) (.slice none 0 0) 0 false false false 0 0 0 0 0 false false 0 false), 35, false⟩, (uCo d false), (uCo r false)] ⟨cvo, cvo, cvo, cvs 0 hn9, cvs 1 hn9, cvo, cvo, uC_c 2, uC_c 3, ⟨⟩⟩ ?_
  refine sd_run 10 (sdCp 12 35 #[.pointer (some ⟨0, 0, none⟩)] (@words_s g0 g1 g2 g3 g4 g5 g6 g7 g8 g9 g10 g11 g12 g13 g14 g15 at9 M K kw kc wn ) i3_ ⟨brn, uC_b, hhC_b, ⟨⟩⟩ ?_)
  rintro v9 k9 ⟨rfl, rfl⟩
  refine ⟨rfl, .int .i64 (wn : Int), kr, ?_⟩
  refine sd_run 1 (sdP 13 (wn : Int) 256 (by omega) kr (sd_run 28 ?_))
  refine sdZ (.tuple #[(stq q q.pc (s1 7 d.length) (s1 8 r.length) q.fl q.cnt), .bool false]) hX (.tuple #[(stq q q.pc (s1 5 d.length) (s1 6 r.length) q.fl q.cnt), .bool false]) [some ⟨[Value.int .u64 g0, .int .u64 g1, .int .u64 g2, .int .u64 g3, .int .u64 g4, .int .u64 g5, .int .u64 g6, .int .u64 g7, .int .u64 g8, .int .u64 g9, .int .u64 g10, .int .u64 g11, .int .u64 g12, .int .u64 g13, .int .u64 g14, .int .u64 g15, .slice (some ⟨1, 0, none⟩) wn kw, .slice (some ⟨2, 0, none⟩) K.length kc, .int .i64 at9], 86, false⟩, (uCo M false), (hhCo K false), (uCo (d ++ dj) ro), (uCo (r ++ rj) ro), (uCo d false), (uCo r false)] [some 0, some 1, some 2, some 3, some 4, some 7, some 8] ⟨brn, uC_b, hhC_b, uC_b, uC_b, uC_b, uC_b, ⟨⟩⟩ ⟨rfl, rfl⟩
 ·skip
  refine scall_sd 55 _ 5 kr f14_fn f14_body rfl rfl rfl fun X hX => ?_
  refine sd_run 10 (sdC 7 39 #[(stq q q.pc (.slice (some ⟨3, 0, none⟩) d.length ka) (.slice (some ⟨4, 0, none⟩) r.length kb) q.fl q.cnt)] (@copy_s q d dj r rj ka kb ro hdb hrb) [some 3, some 4] ⟨uC_b, uC_b, ⟨⟩⟩ ?_)
  rintro hn9 v9 k9 ⟨rfl, rfl⟩
  refine mkG (stq q q.pc (s1 7 d.length) (s1 8 r.length) q.fl q.cnt) [some ⟨[Value.int .u64 g0, .int .u64 g1, .int .u64 g2, .int .u64 g3, .int .u64 g4, .int .u64 g5, .int .u64 g6, .int .u64 g7, .int .u64 g8, .int .u64 g9, .int .u64 g10, .int .u64 g11, .int .u64 g12, .int .u64 g13, .int .u64 g14, .int .u64 g15, .slice (some ⟨1, 0, none⟩) wn kw, .slice (some ⟨2, 0, none⟩) K.length kc, .int .i64 at9], 86, false⟩, (uCo M false), (hhCo K false), (uCo (d ++ dj) ro), (uCo (r ++ rj) ro), some ⟨(slq q q.pc (.slice (some ⟨3, 0, none⟩) d.length ka) (.slice (some ⟨4, 0, none⟩) r.length kb) q.fl q.cnt), 35, false⟩, some ⟨(slw 0 (.slice none 0 0) (.slice none 0 0) 0 false false false 0 0 0 0 0 false false 0 false), 35, false⟩, (uCo d false), (uCo r false)] ⟨cvo, cvo, cvo, cvs 0 hn9, cvs 1 hn9, cvo, cvo, uC_c 2, uC_c 3, ⟨⟩⟩ ?_
  refine sd_run 10 (sdCp 12 35 #[.pointer (some ⟨0, 0, none⟩)] (@words_s g0 g1 g2 g3 g4 g5 g6 g7 g8 g9 g10 g11 g12 g13 g14 g15 at9 M K kw kc wn ) i3_ ⟨brn, uC_b, hhC_b, ⟨⟩⟩ ?_)
  rintro v9 k9 ⟨rfl, rfl⟩
  refine ⟨rfl, .int .i64 (wn : Int), kr, ?_⟩
  refine sd_run 1 (sdQ 13 (wn : Int) 256 (by omega) kr (sd_run 3 (sdCp 17 16 #[.pointer (some ⟨0, 0, none⟩), .int .i64 2] (@word_s g0 g1 g2 g3 g4 g5 g6 g7 g8 g9 g10 g11 g12 g13 g14 g15 at9 M K kw kc wn 2 hwn) i3_ ⟨brn, uC_b, hhC_b, ⟨⟩⟩ ?_)))
  rintro v9 k9 ⟨rfl, rfl⟩
  refine ⟨rfl, .int .u32 (M.getD 2 0), kr, ?_⟩
  refine sd_run 1 (sd_see 18 (.bool true) (see_bool (x := (decide (((M.getD 2 0) : Int) > 16))) kr (decide_eq_true (by omega))) (sd_run 23 ?_))
  refine sdZ (.tuple #[(stq q q.pc (s1 7 d.length) (s1 8 r.length) q.fl q.cnt), .bool false]) hX (.tuple #[(stq q q.pc (s1 5 d.length) (s1 6 r.length) q.fl q.cnt), .bool false]) [some ⟨[Value.int .u64 g0, .int .u64 g1, .int .u64 g2, .int .u64 g3, .int .u64 g4, .int .u64 g5, .int .u64 g6, .int .u64 g7, .int .u64 g8, .int .u64 g9, .int .u64 g10, .int .u64 g11, .int .u64 g12, .int .u64 g13, .int .u64 g14, .int .u64 g15, .slice (some ⟨1, 0, none⟩) wn kw, .slice (some ⟨2, 0, none⟩) K.length kc, .int .i64 at9], 86, false⟩, (uCo M false), (hhCo K false), (uCo (d ++ dj) ro), (uCo (r ++ rj) ro), (uCo d false), (uCo r false)] [some 0, some 1, some 2, some 3, some 4, some 7, some 8] ⟨brn, uC_b, hhC_b, uC_b, uC_b, uC_b, uC_b, ⟨⟩⟩ ⟨rfl, rfl⟩
 ·skip
  refine scall_sd 55 _ 5 kr f14_fn f14_body rfl rfl rfl fun X hX => ?_
  refine sd_run 10 (sdC 7 39 #[(stq q q.pc (.slice (some ⟨3, 0, none⟩) d.length ka) (.slice (some ⟨4, 0, none⟩) r.length kb) q.fl q.cnt)] (@copy_s q d dj r rj ka kb ro hdb hrb) [some 3, some 4] ⟨uC_b, uC_b, ⟨⟩⟩ ?_)
  rintro hn9 v9 k9 ⟨rfl, rfl⟩
  refine mkG (stq q q.pc (s1 7 d.length) (s1 8 r.length) q.fl q.cnt) [some ⟨[Value.int .u64 g0, .int .u64 g1, .int .u64 g2, .int .u64 g3, .int .u64 g4, .int .u64 g5, .int .u64 g6, .int .u64 g7, .int .u64 g8, .int .u64 g9, .int .u64 g10, .int .u64 g11, .int .u64 g12, .int .u64 g13, .int .u64 g14, .int .u64 g15, .slice (some ⟨1, 0, none⟩) wn kw, .slice (some ⟨2, 0, none⟩) K.length kc, .int .i64 at9], 86, false⟩, (uCo M false), (hhCo K false), (uCo (d ++ dj) ro), (uCo (r ++ rj) ro), some ⟨(slq q q.pc (.slice (some ⟨3, 0, none⟩) d.length ka) (.slice (some ⟨4, 0, none⟩) r.length kb) q.fl q.cnt), 35, false⟩, some ⟨(slw 0 (.slice none 0 0) (.slice none 0 0) 0 false false false 0 0 0 0 0 false false 0 false), 35, false⟩, (uCo d false), (uCo r false)] ⟨cvo, cvo, cvo, cvs 0 hn9, cvs 1 hn9, cvo, cvo, uC_c 2, uC_c 3, ⟨⟩⟩ ?_
  refine sd_run 10 (sdCp 12 35 #[.pointer (some ⟨0, 0, none⟩)] (@words_s g0 g1 g2 g3 g4 g5 g6 g7 g8 g9 g10 g11 g12 g13 g14 g15 at9 M K kw kc wn ) i3_ ⟨brn, uC_b, hhC_b, ⟨⟩⟩ ?_)
  rintro v9 k9 ⟨rfl, rfl⟩
  refine ⟨rfl, .int .i64 (wn : Int), kr, ?_⟩
  refine sd_run 1 (sdQ 13 (wn : Int) 256 (by omega) kr (sd_run 3 (sdCp 17 16 #[.pointer (some ⟨0, 0, none⟩), .int .i64 2] (@word_s g0 g1 g2 g3 g4 g5 g6 g7 g8 g9 g10 g11 g12 g13 g14 g15 at9 M K kw kc wn 2 hwn) i3_ ⟨brn, uC_b, hhC_b, ⟨⟩⟩ ?_)))
  rintro v9 k9 ⟨rfl, rfl⟩
  refine ⟨rfl, .int .u32 (M.getD 2 0), kr, ?_⟩
  refine sd_run 1 (sd_see 18 (.bool false) (see_bool (x := (decide (((M.getD 2 0) : Int) > 16))) kr (decide_eq_false (by omega))) (sd_run 3 (sdCp 22 16 #[.pointer (some ⟨0, 0, none⟩), .int .i64 3] (@word_s g0 g1 g2 g3 g4 g5 g6 g7 g8 g9 g10 g11 g12 g13 g14 g15 at9 M K kw kc wn 3 hwn) i3_ ⟨brn, uC_b, hhC_b, ⟨⟩⟩ ?_)))
  rintro v9 k9 ⟨rfl, rfl⟩
  refine ⟨rfl, .int .u32 (M.getD 3 0), kr, ?_⟩
  refine sd_run 1 (sd_see 23 (.bool true) (see_bool (x := (decide (((M.getD 3 0) : Int) > 16))) kr (decide_eq_true (by omega))) (sd_run 18 ?_))
  refine sdZ (.tuple #[(stq q q.pc (s1 7 d.length) (s1 8 r.length) q.fl q.cnt), .bool false]) hX (.tuple #[(stq q q.pc (s1 5 d.length) (s1 6 r.length) q.fl q.cnt), .bool false]) [some ⟨[Value.int .u64 g0, .int .u64 g1, .int .u64 g2, .int .u64 g3, .int .u64 g4, .int .u64 g5, .int .u64 g6, .int .u64 g7, .int .u64 g8, .int .u64 g9, .int .u64 g10, .int .u64 g11, .int .u64 g12, .int .u64 g13, .int .u64 g14, .int .u64 g15, .slice (some ⟨1, 0, none⟩) wn kw, .slice (some ⟨2, 0, none⟩) K.length kc, .int .i64 at9], 86, false⟩, (uCo M false), (hhCo K false), (uCo (d ++ dj) ro), (uCo (r ++ rj) ro), (uCo d false), (uCo r false)] [some 0, some 1, some 2, some 3, some 4, some 7, some 8] ⟨brn, uC_b, hhC_b, uC_b, uC_b, uC_b, uC_b, ⟨⟩⟩ ⟨rfl, rfl⟩
 ·skip
  refine scall_sd 55 _ 5 kr f14_fn f14_body rfl rfl rfl fun X hX => ?_
  refine sd_run 10 (sdC 7 39 #[(stq q q.pc (.slice (some ⟨3, 0, none⟩) d.length ka) (.slice (some ⟨4, 0, none⟩) r.length kb) q.fl q.cnt)] (@copy_s q d dj r rj ka kb ro hdb hrb) [some 3, some 4] ⟨uC_b, uC_b, ⟨⟩⟩ ?_)
  rintro hn9 v9 k9 ⟨rfl, rfl⟩
  refine mkG (stq q q.pc (s1 7 d.length) (s1 8 r.length) q.fl q.cnt) [some ⟨[Value.int .u64 g0, .int .u64 g1, .int .u64 g2, .int .u64 g3, .int .u64 g4, .int .u64 g5, .int .u64 g6, .int .u64 g7, .int .u64 g8, .int .u64 g9, .int .u64 g10, .int .u64 g11, .int .u64 g12, .int .u64 g13, .int .u64 g14, .int .u64 g15, .slice (some ⟨1, 0, none⟩) wn kw, .slice (some ⟨2, 0, none⟩) K.length kc, .int .i64 at9], 86, false⟩, (uCo M false), (hhCo K false), (uCo (d ++ dj) ro), (uCo (r ++ rj) ro), some ⟨(slq q q.pc (.slice (some ⟨3, 0, none⟩) d.length ka) (.slice (some ⟨4, 0, none⟩) r.length kb) q.fl q.cnt), 35, false⟩, some ⟨(slw 0 (.slice none 0 0) (.slice none 0 0) 0 false false false 0 0 0 0 0 false false 0 false), 35, false⟩, (uCo d false), (uCo r false)] ⟨cvo, cvo, cvo, cvs 0 hn9, cvs 1 hn9, cvo, cvo, uC_c 2, uC_c 3, ⟨⟩⟩ ?_
  refine sd_run 10 (sdCp 12 35 #[.pointer (some ⟨0, 0, none⟩)] (@words_s g0 g1 g2 g3 g4 g5 g6 g7 g8 g9 g10 g11 g12 g13 g14 g15 at9 M K kw kc wn ) i3_ ⟨brn, uC_b, hhC_b, ⟨⟩⟩ ?_)
  rintro v9 k9 ⟨rfl, rfl⟩
  refine ⟨rfl, .int .i64 (wn : Int), kr, ?_⟩
  refine sd_run 1 (sdQ 13 (wn : Int) 256 (by omega) kr (sd_run 3 (sdCp 17 16 #[.pointer (some ⟨0, 0, none⟩), .int .i64 2] (@word_s g0 g1 g2 g3 g4 g5 g6 g7 g8 g9 g10 g11 g12 g13 g14 g15 at9 M K kw kc wn 2 hwn) i3_ ⟨brn, uC_b, hhC_b, ⟨⟩⟩ ?_)))
  rintro v9 k9 ⟨rfl, rfl⟩
  refine ⟨rfl, .int .u32 (M.getD 2 0), kr, ?_⟩
  refine sd_run 1 (sd_see 18 (.bool false) (see_bool (x := (decide (((M.getD 2 0) : Int) > 16))) kr (decide_eq_false (by omega))) (sd_run 3 (sdCp 22 16 #[.pointer (some ⟨0, 0, none⟩), .int .i64 3] (@word_s g0 g1 g2 g3 g4 g5 g6 g7 g8 g9 g10 g11 g12 g13 g14 g15 at9 M K kw kc wn 3 hwn) i3_ ⟨brn, uC_b, hhC_b, ⟨⟩⟩ ?_)))
  rintro v9 k9 ⟨rfl, rfl⟩
  refine ⟨rfl, .int .u32 (M.getD 3 0), kr, ?_⟩
  refine sd_run 1 (sd_see 23 (.bool false) (see_bool (x := (decide (((M.getD 3 0) : Int) > 16))) kr (decide_eq_false (by omega))) (sd_run 3 (sdCp 27 16 #[.pointer (some ⟨0, 0, none⟩), .int .i64 1] (@word_s g0 g1 g2 g3 g4 g5 g6 g7 g8 g9 g10 g11 g12 g13 g14 g15 at9 M K kw kc wn 1 hwn) i3_ ⟨brn, uC_b, hhC_b, ⟨⟩⟩ ?_)))
  rintro v9 k9 ⟨rfl, rfl⟩
  refine ⟨rfl, .int .u32 (M.getD 1 0), kr, ?_⟩
  refine sd_run 1 (sd_see 28 (.bool true) (see_bool (x := (decide (((M.getD 1 0) : Int) > 15))) kr (decide_eq_true (by omega))) (sd_run 13 ?_))
  refine sdZ (.tuple #[(stq q q.pc (s1 7 d.length) (s1 8 r.length) q.fl q.cnt), .bool false]) hX (.tuple #[(stq q q.pc (s1 5 d.length) (s1 6 r.length) q.fl q.cnt), .bool false]) [some ⟨[Value.int .u64 g0, .int .u64 g1, .int .u64 g2, .int .u64 g3, .int .u64 g4, .int .u64 g5, .int .u64 g6, .int .u64 g7, .int .u64 g8, .int .u64 g9, .int .u64 g10, .int .u64 g11, .int .u64 g12, .int .u64 g13, .int .u64 g14, .int .u64 g15, .slice (some ⟨1, 0, none⟩) wn kw, .slice (some ⟨2, 0, none⟩) K.length kc, .int .i64 at9], 86, false⟩, (uCo M false), (hhCo K false), (uCo (d ++ dj) ro), (uCo (r ++ rj) ro), (uCo d false), (uCo r false)] [some 0, some 1, some 2, some 3, some 4, some 7, some 8] ⟨brn, uC_b, hhC_b, uC_b, uC_b, uC_b, uC_b, ⟨⟩⟩ ⟨rfl, rfl⟩
end Ls
end Go.Proofs.Ytihacfclecanjaa
