/- Chapter 19: the document: plain instructions, second half. -/
import Derived.Test.YtgpphhdndmdlgaaKz
namespace Go.Proofs.Ytgpphhdndmdlgaa
open Go Go.Ev Go.RowKit
set_option linter.unusedVariables false
set_option linter.unusedSimpArgs false
set_option maxRecDepth 100000
namespace Ls
set_option maxHeartbeats 2000000 in
theorem pdo_alu {q : Sx} {e dj rj : List Int} {a b : Int} {r : List Int} {n op : Int} {ro : Bool} {ka kb : Nat} (hop : 16 ≤ op ∧ op ≤ 23) (hdl : (e ++ [a, b]).length ≤ 16) (hrl : r.length ≤ 16) (hfl : 0 ≤ q.fl ∧ q.fl ≤ 15) (hc : canM op (e ++ [a, b]).length r.length = true) (ha : 0 ≤ a ∧ a < 4294967296) (hb : 0 ≤ b ∧ b < 4294967296) : SCall Try.prog T20 16 #[(stq q q.pc (.slice (some ⟨0, 0, none⟩) ((e ++ [a, b]).length) ka) (.slice (some ⟨1, 0, none⟩) r.length kb) q.fl q.cnt), .agg #[.int .i64 op, .int .u32 0], .pointer none, .pointer none] (hq [(uCo ((e ++ [a, b]) ++ dj) ro), (uCo (r ++ rj) ro)]) fun v h => ∃ (D1 j1 R1 k1 : List Int) (fl1 pc1 : Int), D1 = doD op 0 (e ++ [a, b]) r ∧ R1 = doRs op (IntKind.u32.wrap (q.pc + sizeZ op)) (e ++ [a, b]) r ∧ fl1 = doFl op (e ++ [a, b]) q.fl ∧ pc1 = doPc op 0 (IntKind.u32.wrap (q.pc + sizeZ op)) (e ++ [a, b]) r q.fl ∧ v = (rsq q pc1 (s1 2 D1.length) (s1 3 R1.length) fl1 (IntKind.u64.wrap (q.cnt + 1)) false false (.slice none 0 0)) ∧ h = hq [(uCo ((e ++ [a, b]) ++ dj) ro), (uCo (r ++ rj) ro), (uCo (D1 ++ j1) false), (uCo (R1 ++ k1) false)] := by
 have hdl2 := hdl; rw [List.length_append] at hdl2; simp only [List.length_cons, List.length_nil] at hdl2
 have hst : stOk (e ++ [a, b]) r q.fl = true := by simp [stOk]; (try simp at hdl); (try simp at hrl); omega
 have hpl : plainB op = true := by simp [plainB]; omega
 have hsz : sizeZ op = 1 := alu_size hop
 have hri : rightI op 0 = true := by simp [rightI, hsz]
 refine scall_sd 72 _ 2 kr f16_fn f16_body rfl rfl rfl fun X hX => ?_
 refine sd_run 11 (sdCp 13 41 #[(stq q q.pc (.slice (some ⟨0, 0, none⟩) ((e ++ [a, b]).length) ka) (.slice (some ⟨1, 0, none⟩) r.length kb) q.fl q.cnt)] (@stright16_s q (e ++ [a, b]) dj r rj ka kb ro ) i2_ ⟨uC_b, uC_b, ⟨⟩⟩ ?_)
 rintro v9 k9 ⟨rfl, rfl⟩
 refine ⟨rfl, .bool (stOk (e ++ [a, b]) r q.fl), kr, ?_⟩
 refine sd_see 13 (.bool true) (see_bool kr hst) (sd_run 20 (sdCp 26 22 #[(stq q q.pc (.slice (some ⟨0, 0, none⟩) ((e ++ [a, b]).length) ka) (.slice (some ⟨1, 0, none⟩) r.length kb) q.fl q.cnt), .agg #[.int .i64 op, .int .u32 0]] (@check_s q (e ++ [a, b]) dj r rj ka kb op 0 ro hpl hri hdl hrl) i2_ ⟨uC_b, uC_b, ⟨⟩⟩ ?_))
 rintro v9 k9 ⟨rfl, rfl⟩
 refine ⟨rfl, .int .i64 (chkZ op (e ++ [a, b]).length r.length), kr, ?_⟩
 refine sd_see 26 (.int .i64 0) (see_int kr (chk_ok hc)) (sd_run 7 (sdC 28 21 #[(stq q q.pc (.slice (some ⟨0, 0, none⟩) ((e ++ [a, b]).length) ka) (.slice (some ⟨1, 0, none⟩) r.length kb) q.fl q.cnt)] (@copy16_s q (e ++ [a, b]) dj r rj ka kb ro (by omega) (by omega)) i2_ ⟨uC_b, uC_b, ⟨⟩⟩ ?_))
 rintro hn9 v9 k9 ⟨rfl, rfl⟩
 refine mkG (stq q q.pc (s1 5 ((e ++ [a, b]).length)) (s1 6 r.length) q.fl q.cnt) [(uCo ((e ++ [a, b]) ++ dj) ro), (uCo (r ++ rj) ro), some ⟨(slq q q.pc (.slice (some ⟨0, 0, none⟩) ((e ++ [a, b]).length) ka) (.slice (some ⟨1, 0, none⟩) r.length kb) q.fl q.cnt), 27, false⟩, some ⟨[Value.int .i64 op, .int .u32 0], 30, false⟩, some ⟨(rlw 0 (.slice none 0 0) (.slice none 0 0) 0 false false false 0 0 0 0 0 false false 0 false false false (.slice none 0 0)), 52, false⟩, (uCo (e ++ [a, b]) false), (uCo r false)] ⟨cvs 0 hn9, cvs 1 hn9, cvo, cvo, cvo, uC_c 2, uC_c 3, ⟨⟩⟩ ?_
 refine sd_run 14 (sd_drawQ [(1, 4)] kr kr ?_)
 refine sq_run 1 ?_
 refine sq_rd 33 (.int .u32 q.pc) (.pointer (some ⟨2, 0, none⟩)) 22 kr kr kr kr (veq_int _ _) kr ?_
 refine sq_run 2 ?_
 refine sq_ask 36 (.int .i64 (sizeZ op)) 43 #[.int .i64 op] kr kr kr rfl ⟨kr, kr, kr⟩ ?_
 refine sq_see 36 (.int .i64 1) (see_int (x := (sizeZ op)) kr hsz) ?_
 refine sq_run 5 ?_
 refine sq_end kr ?_
 refine sd_run 28 (sd_see 22 (.int .i64 (((e.length + 2) : Nat) : Int)) (see_int (x := ((e ++ [a, b]).length : Int)) kr (by simp)) (sd_run 10 (sdF 33 ((op : Int) ≤ 8) (by omega) kr (sd_run 9 (sdT 40 ((op : Int) ≤ 25) (by omega) kr (sd_run 12 (sd_see 47 (.int .i64 (e.length : Int)) (see_int (x := (IntKind.i64.wrap ((((e.length + 2) : Nat) : Int) - 2))) kr (by rw [show ((((e.length + 2) : Nat) : Int) - 2 : Int) = (e.length : Int) by omega]; exact w64 rfl (by omega) (by omega))) ?_)))))))
 refine sd_ix 48 (.pointer (some ⟨0, 0 + e.length * 1, none⟩)) e.length ((e ++ [a, b]).length) kr kr kr (by first | omega | (simp; done) | (simp; omega)) (sd_ld 49 (.int .u32 a) 22 (.pointer (some ⟨0, 0 + e.length * 1, none⟩)) kr kr kr (ld_cell (l := (e ++ [a, b]) ++ dj) (e := 22) (ro := ro) (k := e.length) (j := 0) uC_len kr kr kr (app_at (at0 e a [b])) rfl) (sd_run 4 (sd_see 53 (.int .i64 (((e.length + 1) : Nat) : Int)) (see_int (x := (IntKind.i64.wrap ((((e.length + 2) : Nat) : Int) - 1))) kr (by rw [show ((((e.length + 2) : Nat) : Int) - 1 : Int) = (((e.length + 1) : Nat) : Int) by omega]; exact w64 rfl (by omega) (by omega))) (sd_ix 54 (.pointer (some ⟨0, 0 + (e.length + 1) * 1, none⟩)) (e.length + 1) ((e ++ [a, b]).length) kr kr kr (by first | omega | (simp; done) | (simp; omega)) (sd_ld 55 (.int .u32 b) 22 (.pointer (some ⟨0, 0 + (e.length + 1) * 1, none⟩)) kr kr kr (ld_cell (l := (e ++ [a, b]) ++ dj) (e := 22) (ro := ro) (k := e.length + 1) (j := 0) uC_len kr kr kr (app_at (at1 e a b [])) rfl) (sd_ask 56 (.tuple #[.int .u32 (doR op a b), .int .u32 (doF op a b), .bool (doK op b)]) 69 #[.int .i64 op, .int .u32 a, .int .u32 b] kr kr kr (orc69 op a b (u32B2 ha hb)) (sd_run 4 ?_)))))))
 refine sd_see 59 (.bool true) (see_bool (x := doK op b) kr (by simp [doK]; omega)) (sd_run 33 (sd_see 72 (.int .i64 (e.length : Int)) (see_int (x := (IntKind.i64.wrap ((((e.length + 2) : Nat) : Int) - 2))) kr (by rw [show ((((e.length + 2) : Nat) : Int) - 2 : Int) = (e.length : Int) by omega]; exact w64 rfl (by omega) (by omega))) (sd_slh 73 24 22 1 5 0 ((e ++ [a, b]).length) e.length .i64 kr kr kr kr kr (by first | omega | (simp; done) | (simp; omega)) (sd_run 10 (sdP 78 (op : Int) 25 (by omega) kr (sd_run 11 (sd_growp 86 24 24 22 0 3 5 e.length 1 11 (.slice (some ⟨10, 0, none⟩) 1 1) (tab uC (e ++ [a, b])) [Value.int .u32 (doR op a b)] (tab uC ((e ++ [(doR op a b)]) ++ [])) kr kr kr kr kr (tab_le uC_len e ([a, b]) rfl) kr kr (by decide) kr (by omega) kr (tab_partN uC_len e ([a, b]) [(doR op a b)] rfl rfl) ?_)))))))
 refine sd_see 86 (s1 11 ((e ++ [(doR op a b)]).length)) (see_len (n := (e.length + 1)) kr (by simp)) (sd_run 59 ?_)
 refine sdZ (rsq q (IntKind.u32.wrap (q.pc + 1)) (s1 11 ((e ++ [(doR op a b)]).length)) (s1 6 r.length) (doF op a b) (IntKind.u64.wrap (q.cnt + 1)) false false (.slice none 0 0)) hX (rsq q (IntKind.u32.wrap (q.pc + 1)) (s1 2 ((e ++ [(doR op a b)]).length)) (s1 3 r.length) (doF op a b) (IntKind.u64.wrap (q.cnt + 1)) false false (.slice none 0 0)) [(uCo ((e ++ [a, b]) ++ dj) ro), (uCo (r ++ rj) ro), (uCo ((e ++ [(doR op a b)]) ++ []) false), (uCo (r ++ []) false)] [some 0, some 1, some 11, some 6] ⟨uC_b, uC_b, uC_b, bk_flat (tab uC r) kr (tab_plain uC_pl _) (congrArg (tab uC) (List.append_nil _).symm), ⟨⟩⟩ ⟨(e ++ [(doR op a b)]), [], r, [], (doF op a b), (IntKind.u32.wrap (q.pc + 1)), (alu_D hop), (alu_R hop), (alu_F hop), (by rw [hsz]; exact (alu_P hop).symm), rfl, rfl⟩
set_option maxHeartbeats 2000000 in
theorem pdo_25 {q : Sx} {e dj rj : List Int} {a b : Int} {r : List Int} {n : Int} {ro : Bool} {ka kb : Nat} (hdl : (e ++ [a, b]).length ≤ 16) (hrl : r.length ≤ 16) (hfl : 0 ≤ q.fl ∧ q.fl ≤ 15) (hc : canM 25 (e ++ [a, b]).length r.length = true) (ha : 0 ≤ a ∧ a < 4294967296) (hb : 0 ≤ b ∧ b < 4294967296) : SCall Try.prog T20 16 #[(stq q q.pc (.slice (some ⟨0, 0, none⟩) ((e ++ [a, b]).length) ka) (.slice (some ⟨1, 0, none⟩) r.length kb) q.fl q.cnt), .agg #[.int .i64 25, .int .u32 0], .pointer none, .pointer none] (hq [(uCo ((e ++ [a, b]) ++ dj) ro), (uCo (r ++ rj) ro)]) fun v h => ∃ (D1 j1 R1 k1 : List Int) (fl1 pc1 : Int), D1 = doD 25 0 (e ++ [a, b]) r ∧ R1 = doRs 25 (IntKind.u32.wrap (q.pc + sizeZ 25)) (e ++ [a, b]) r ∧ fl1 = doFl 25 (e ++ [a, b]) q.fl ∧ pc1 = doPc 25 0 (IntKind.u32.wrap (q.pc + sizeZ 25)) (e ++ [a, b]) r q.fl ∧ v = (rsq q pc1 (s1 2 D1.length) (s1 3 R1.length) fl1 (IntKind.u64.wrap (q.cnt + 1)) false false (.slice none 0 0)) ∧ h = hq [(uCo ((e ++ [a, b]) ++ dj) ro), (uCo (r ++ rj) ro), (uCo (D1 ++ j1) false), (uCo (R1 ++ k1) false)] := by
 have hdl2 := hdl; rw [List.length_append] at hdl2; simp only [List.length_cons, List.length_nil] at hdl2
 have hst : stOk (e ++ [a, b]) r q.fl = true := by simp [stOk]; (try simp at hdl); (try simp at hrl); omega
 refine scall_sd 72 _ 2 kr f16_fn f16_body rfl rfl rfl fun X hX => ?_
 refine sd_run 11 (sdCp 13 41 #[(stq q q.pc (.slice (some ⟨0, 0, none⟩) ((e ++ [a, b]).length) ka) (.slice (some ⟨1, 0, none⟩) r.length kb) q.fl q.cnt)] (@stright16_s q (e ++ [a, b]) dj r rj ka kb ro ) i2_ ⟨uC_b, uC_b, ⟨⟩⟩ ?_)
 rintro v9 k9 ⟨rfl, rfl⟩
 refine ⟨rfl, .bool (stOk (e ++ [a, b]) r q.fl), kr, ?_⟩
 refine sd_see 13 (.bool true) (see_bool kr hst) (sd_run 20 (sdCp 26 22 #[(stq q q.pc (.slice (some ⟨0, 0, none⟩) ((e ++ [a, b]).length) ka) (.slice (some ⟨1, 0, none⟩) r.length kb) q.fl q.cnt), .agg #[.int .i64 25, .int .u32 0]] (@check_s q (e ++ [a, b]) dj r rj ka kb 25 0 ro rfl rfl hdl hrl) i2_ ⟨uC_b, uC_b, ⟨⟩⟩ ?_))
 rintro v9 k9 ⟨rfl, rfl⟩
 refine ⟨rfl, .int .i64 (chkZ 25 (e ++ [a, b]).length r.length), kr, ?_⟩
 refine sd_see 26 (.int .i64 0) (see_int kr (chk_ok hc)) (sd_run 7 (sdC 28 21 #[(stq q q.pc (.slice (some ⟨0, 0, none⟩) ((e ++ [a, b]).length) ka) (.slice (some ⟨1, 0, none⟩) r.length kb) q.fl q.cnt)] (@copy16_s q (e ++ [a, b]) dj r rj ka kb ro (by omega) (by omega)) i2_ ⟨uC_b, uC_b, ⟨⟩⟩ ?_))
 rintro hn9 v9 k9 ⟨rfl, rfl⟩
 refine mkG (stq q q.pc (s1 5 ((e ++ [a, b]).length)) (s1 6 r.length) q.fl q.cnt) [(uCo ((e ++ [a, b]) ++ dj) ro), (uCo (r ++ rj) ro), some ⟨(slq q q.pc (.slice (some ⟨0, 0, none⟩) ((e ++ [a, b]).length) ka) (.slice (some ⟨1, 0, none⟩) r.length kb) q.fl q.cnt), 27, false⟩, some ⟨[Value.int .i64 25, .int .u32 0], 30, false⟩, some ⟨(rlw 0 (.slice none 0 0) (.slice none 0 0) 0 false false false 0 0 0 0 0 false false 0 false false false (.slice none 0 0)), 52, false⟩, (uCo (e ++ [a, b]) false), (uCo r false)] ⟨cvs 0 hn9, cvs 1 hn9, cvo, cvo, cvo, uC_c 2, uC_c 3, ⟨⟩⟩ ?_
 refine sd_run 14 (sd_drawQ [(1, 4)] kr kr ?_)
 refine sq_run 1 ?_
 refine sq_rd 33 (.int .u32 q.pc) (.pointer (some ⟨2, 0, none⟩)) 22 kr kr kr kr (veq_int _ _) kr ?_
 refine sq_run 2 ?_
 refine sq_ask 36 (.int .i64 (sizeZ 25)) 43 #[.int .i64 25] kr kr kr rfl ⟨kr, kr, kr⟩ ?_
 refine sq_see 36 (.int .i64 1) (see_int (x := (sizeZ 25)) kr (by simp [sizeZ, namedB])) ?_
 refine sq_run 5 ?_
 refine sq_end kr ?_
 refine sd_run 28 (sd_see 22 (.int .i64 (((e.length + 2) : Nat) : Int)) (see_int (x := ((e ++ [a, b]).length : Int)) kr (by simp)) (sd_run 31 (sd_see 47 (.int .i64 (e.length : Int)) (see_int (x := (IntKind.i64.wrap ((((e.length + 2) : Nat) : Int) - 2))) kr (by rw [show ((((e.length + 2) : Nat) : Int) - 2 : Int) = (e.length : Int) by omega]; exact w64 rfl (by omega) (by omega))) (sd_ix 48 (.pointer (some ⟨0, 0 + e.length * 1, none⟩)) e.length ((e ++ [a, b]).length) kr kr kr (by first | omega | (simp; done) | (simp; omega)) (sd_ld 49 (.int .u32 a) 22 (.pointer (some ⟨0, 0 + e.length * 1, none⟩)) kr kr kr (ld_cell (l := (e ++ [a, b]) ++ dj) (e := 22) (ro := ro) (k := e.length) (j := 0) uC_len kr kr kr (app_at (at0 e a [b])) rfl) (sd_run 4 (sd_see 53 (.int .i64 (((e.length + 1) : Nat) : Int)) (see_int (x := (IntKind.i64.wrap ((((e.length + 2) : Nat) : Int) - 1))) kr (by rw [show ((((e.length + 2) : Nat) : Int) - 1 : Int) = (((e.length + 1) : Nat) : Int) by omega]; exact w64 rfl (by omega) (by omega))) ?_)))))))
 refine sd_ix 54 (.pointer (some ⟨0, 0 + (e.length + 1) * 1, none⟩)) (e.length + 1) ((e ++ [a, b]).length) kr kr kr (by first | omega | (simp; done) | (simp; omega)) (sd_ld 55 (.int .u32 b) 22 (.pointer (some ⟨0, 0 + (e.length + 1) * 1, none⟩)) kr kr kr (ld_cell (l := (e ++ [a, b]) ++ dj) (e := 22) (ro := ro) (k := e.length + 1) (j := 0) uC_len kr kr kr (app_at (at1 e a b [])) rfl) (sd_ask 56 (.tuple #[.int .u32 (doR 25 a b), .int .u32 (doF 25 a b), .bool (doK 25 b)]) 69 #[.int .i64 25, .int .u32 a, .int .u32 b] kr kr kr (orc69 25 a b (u32B2 ha hb)) (sd_run 4 (sd_see 59 (.bool true) (see_bool (x := doK 25 b) kr (by simp [doK])) (sd_run 33 (sd_see 72 (.int .i64 (e.length : Int)) (see_int (x := (IntKind.i64.wrap ((((e.length + 2) : Nat) : Int) - 2))) kr (by rw [show ((((e.length + 2) : Nat) : Int) - 2 : Int) = (e.length : Int) by omega]; exact w64 rfl (by omega) (by omega))) (sd_slh 73 24 22 1 5 0 ((e ++ [a, b]).length) e.length .i64 kr kr kr kr kr (by first | omega | (simp; done) | (simp; omega)) ?_)))))))
 refine sd_run 69 ?_
 refine sdZ (rsq q (IntKind.u32.wrap (q.pc + 1)) (s1 5 e.length) (s1 6 r.length) (doF 25 a b) (IntKind.u64.wrap (q.cnt + 1)) false false (.slice none 0 0)) hX (rsq q (IntKind.u32.wrap (q.pc + 1)) (s1 2 e.length) (s1 3 r.length) (doF 25 a b) (IntKind.u64.wrap (q.cnt + 1)) false false (.slice none 0 0)) [(uCo ((e ++ [a, b]) ++ dj) ro), (uCo (r ++ rj) ro), (uCo (e ++ ([a, b])) false), (uCo (r ++ []) false)] [some 0, some 1, some 5, some 6] ⟨uC_b, uC_b, bk_flat (tab uC (e ++ [a, b])) kr (tab_plain uC_pl _) (by rfl), bk_flat (tab uC r) kr (tab_plain uC_pl _) (congrArg (tab uC) (List.append_nil _).symm), ⟨⟩⟩ ⟨e, ([a, b]), r, [], (doF 25 a b), (IntKind.u32.wrap (q.pc + 1)), (by simp [doD, doRs, doFl, doPc, tpk1, lss1, tpk21, tpk22, lss22]), (by simp [doD, doRs, doFl, doPc, tpk1, lss1, tpk21, tpk22, lss22]), (by simp [doD, doRs, doFl, doPc, tpk1, lss1, tpk21, tpk22, lss22]), (by simp [doD, doRs, doFl, doPc, tpk1, lss1, tpk21, tpk22, lss22, hB]; rfl), rfl, rfl⟩
set_option maxHeartbeats 2000000 in
theorem pdo_32 {q : Sx} {d dj rj : List Int} {r : List Int} {n : Int} {ro : Bool} {ka kb : Nat} (hdl : d.length ≤ 16) (hrl : r.length ≤ 16) (hfl : 0 ≤ q.fl ∧ q.fl ≤ 15) (hc : canM 32 d.length r.length = true) (hn : 0 ≤ n ∧ n ≤ 255) : SCall Try.prog T20 16 #[(stq q q.pc (.slice (some ⟨0, 0, none⟩) d.length ka) (.slice (some ⟨1, 0, none⟩) r.length kb) q.fl q.cnt), .agg #[.int .i64 32, .int .u32 n], .pointer none, .pointer none] (hq [(uCo (d ++ dj) ro), (uCo (r ++ rj) ro)]) fun v h => ∃ (D1 j1 R1 k1 : List Int) (fl1 pc1 : Int), D1 = doD 32 n d r ∧ R1 = doRs 32 (IntKind.u32.wrap (q.pc + sizeZ 32)) d r ∧ fl1 = doFl 32 d q.fl ∧ pc1 = doPc 32 n (IntKind.u32.wrap (q.pc + sizeZ 32)) d r q.fl ∧ v = (rsq q pc1 (s1 2 D1.length) (s1 3 R1.length) fl1 (IntKind.u64.wrap (q.cnt + 1)) false false (.slice none 0 0)) ∧ h = hq [(uCo (d ++ dj) ro), (uCo (r ++ rj) ro), (uCo (D1 ++ j1) false), (uCo (R1 ++ k1) false)] := by
 have hst : stOk d r q.fl = true := by simp [stOk]; (try simp at hdl); (try simp at hrl); omega
 have hri : rightI 32 n = true := by simp [rightI, sizeZ]; omega
 refine scall_sd 72 _ 2 kr f16_fn f16_body rfl rfl rfl fun X hX => ?_
 refine sd_run 11 (sdCp 13 41 #[(stq q q.pc (.slice (some ⟨0, 0, none⟩) d.length ka) (.slice (some ⟨1, 0, none⟩) r.length kb) q.fl q.cnt)] (@stright16_s q d dj r rj ka kb ro ) i2_ ⟨uC_b, uC_b, ⟨⟩⟩ ?_)
 rintro v9 k9 ⟨rfl, rfl⟩
 refine ⟨rfl, .bool (stOk d r q.fl), kr, ?_⟩
 refine sd_see 13 (.bool true) (see_bool kr hst) (sd_run 20 (sdCp 26 22 #[(stq q q.pc (.slice (some ⟨0, 0, none⟩) d.length ka) (.slice (some ⟨1, 0, none⟩) r.length kb) q.fl q.cnt), .agg #[.int .i64 32, .int .u32 n]] (@check_s q d dj r rj ka kb 32 n ro rfl hri hdl hrl) i2_ ⟨uC_b, uC_b, ⟨⟩⟩ ?_))
 rintro v9 k9 ⟨rfl, rfl⟩
 refine ⟨rfl, .int .i64 (chkZ 32 d.length r.length), kr, ?_⟩
 refine sd_see 26 (.int .i64 0) (see_int kr (chk_ok hc)) (sd_run 7 (sdC 28 21 #[(stq q q.pc (.slice (some ⟨0, 0, none⟩) d.length ka) (.slice (some ⟨1, 0, none⟩) r.length kb) q.fl q.cnt)] (@copy16_s q d dj r rj ka kb ro (by omega) (by omega)) i2_ ⟨uC_b, uC_b, ⟨⟩⟩ ?_))
 rintro hn9 v9 k9 ⟨rfl, rfl⟩
 refine mkG (stq q q.pc (s1 5 d.length) (s1 6 r.length) q.fl q.cnt) [(uCo (d ++ dj) ro), (uCo (r ++ rj) ro), some ⟨(slq q q.pc (.slice (some ⟨0, 0, none⟩) d.length ka) (.slice (some ⟨1, 0, none⟩) r.length kb) q.fl q.cnt), 27, false⟩, some ⟨[Value.int .i64 32, .int .u32 n], 30, false⟩, some ⟨(rlw 0 (.slice none 0 0) (.slice none 0 0) 0 false false false 0 0 0 0 0 false false 0 false false false (.slice none 0 0)), 52, false⟩, (uCo d false), (uCo r false)] ⟨cvs 0 hn9, cvs 1 hn9, cvo, cvo, cvo, uC_c 2, uC_c 3, ⟨⟩⟩ ?_
 refine sd_run 14 (sd_drawQ [(1, 4)] kr kr ?_)
 refine sq_run 1 ?_
 refine sq_rd 33 (.int .u32 q.pc) (.pointer (some ⟨2, 0, none⟩)) 22 kr kr kr kr (veq_int _ _) kr ?_
 refine sq_run 2 ?_
 refine sq_ask 36 (.int .i64 (sizeZ 32)) 43 #[.int .i64 32] kr kr kr rfl ⟨kr, kr, kr⟩ ?_
 refine sq_see 36 (.int .i64 2) (see_int (x := (sizeZ 32)) kr (by simp [sizeZ, namedB])) ?_
 refine sq_run 5 ?_
 refine sq_end kr ?_
 refine sd_run 86 (sd_ask 18 (.tuple #[.bool (hB 32 q.fl), .bool (hK 32)]) 79 #[.int .i64 32, .int .u32 q.fl] kr kr kr (orc79 32 q.fl (u32B_of (by omega))) (sd_run 2 (sd_see 19 (.bool false) (see_bool (x := hB 32 q.fl) kr (by simp [hB])) (sd_run 57 (sd_ask 104 (.int .u32 (sgF n)) 80 #[.int .u32 n] kr kr kr (orc80 n (u32B_of (by omega))) (sd_see 104 (.int .u32 (signZ n)) (see_int (x := (sgF n)) kr (sgF_sign (by omega))) (sd_run 62 ?_)))))))
 refine sdZ (rsq q (IntKind.u32.wrap ((IntKind.u32.wrap (q.pc + 2)) + (signZ n))) (s1 5 d.length) (s1 6 r.length) q.fl (IntKind.u64.wrap (q.cnt + 1)) false false (.slice none 0 0)) hX (rsq q (IntKind.u32.wrap ((IntKind.u32.wrap (q.pc + 2)) + (signZ n))) (s1 2 d.length) (s1 3 r.length) q.fl (IntKind.u64.wrap (q.cnt + 1)) false false (.slice none 0 0)) [(uCo (d ++ dj) ro), (uCo (r ++ rj) ro), (uCo (d ++ []) false), (uCo (r ++ []) false)] [some 0, some 1, some 5, some 6] ⟨uC_b, uC_b, bk_flat (tab uC d) kr (tab_plain uC_pl _) (congrArg (tab uC) (List.append_nil _).symm), bk_flat (tab uC r) kr (tab_plain uC_pl _) (congrArg (tab uC) (List.append_nil _).symm), ⟨⟩⟩ ⟨d, [], r, [], q.fl, (IntKind.u32.wrap ((IntKind.u32.wrap (q.pc + 2)) + (signZ n))), (by simp [doD, doRs, doFl, doPc, tpk1, lss1, tpk21, tpk22, lss22]), (by simp [doD, doRs, doFl, doPc, tpk1, lss1, tpk21, tpk22, lss22]), (by simp [doD, doRs, doFl, doPc, tpk1, lss1, tpk21, tpk22, lss22]), (by simp [doD, doRs, doFl, doPc, tpk1, lss1, tpk21, tpk22, lss22, hB]; rfl), rfl, rfl⟩
set_option maxHeartbeats 2000000 in
theorem pdo_jcc {q : Sx} {d dj rj : List Int} {r : List Int} {n op : Int} {ro : Bool} {ka kb : Nat} (hop : 33 ≤ op ∧ op ≤ 37) (hdl : d.length ≤ 16) (hrl : r.length ≤ 16) (hfl : 0 ≤ q.fl ∧ q.fl ≤ 15) (hc : canM op d.length r.length = true) (hn : 0 ≤ n ∧ n ≤ 255) : SCall Try.prog T20 16 #[(stq q q.pc (.slice (some ⟨0, 0, none⟩) d.length ka) (.slice (some ⟨1, 0, none⟩) r.length kb) q.fl q.cnt), .agg #[.int .i64 op, .int .u32 n], .pointer none, .pointer none] (hq [(uCo (d ++ dj) ro), (uCo (r ++ rj) ro)]) fun v h => ∃ (D1 j1 R1 k1 : List Int) (fl1 pc1 : Int), D1 = doD op n d r ∧ R1 = doRs op (IntKind.u32.wrap (q.pc + sizeZ op)) d r ∧ fl1 = doFl op d q.fl ∧ pc1 = doPc op n (IntKind.u32.wrap (q.pc + sizeZ op)) d r q.fl ∧ v = (rsq q pc1 (s1 2 D1.length) (s1 3 R1.length) fl1 (IntKind.u64.wrap (q.cnt + 1)) false false (.slice none 0 0)) ∧ h = hq [(uCo (d ++ dj) ro), (uCo (r ++ rj) ro), (uCo (D1 ++ j1) false), (uCo (R1 ++ k1) false)] := by
 have hst : stOk d r q.fl = true := by simp [stOk]; (try simp at hdl); (try simp at hrl); omega
 have hpl : plainB op = true := by simp [plainB]; omega
 have hsz : sizeZ op = 2 := jcc_size hop
 have hri : rightI op n = true := by simp [rightI, hsz]; omega
 rcases Bool.eq_false_or_eq_true (hB op q.fl) with hb0 | hb0
 ·skip
  refine scall_sd 72 _ 2 kr f16_fn f16_body rfl rfl rfl fun X hX => ?_
  refine sd_run 11 (sdCp 13 41 #[(stq q q.pc (.slice (some ⟨0, 0, none⟩) d.length ka) (.slice (some ⟨1, 0, none⟩) r.length kb) q.fl q.cnt)] (@stright16_s q d dj r rj ka kb ro ) i2_ ⟨uC_b, uC_b, ⟨⟩⟩ ?_)
  rintro v9 k9 ⟨rfl, rfl⟩
  refine ⟨rfl, .bool (stOk d r q.fl), kr, ?_⟩
  refine sd_see 13 (.bool true) (see_bool kr hst) (sd_run 20 (sdCp 26 22 #[(stq q q.pc (.slice (some ⟨0, 0, none⟩) d.length ka) (.slice (some ⟨1, 0, none⟩) r.length kb) q.fl q.cnt), .agg #[.int .i64 op, .int .u32 n]] (@check_s q d dj r rj ka kb op n ro hpl hri hdl hrl) i2_ ⟨uC_b, uC_b, ⟨⟩⟩ ?_))
  rintro v9 k9 ⟨rfl, rfl⟩
  refine ⟨rfl, .int .i64 (chkZ op d.length r.length), kr, ?_⟩
  refine sd_see 26 (.int .i64 0) (see_int kr (chk_ok hc)) (sd_run 7 (sdC 28 21 #[(stq q q.pc (.slice (some ⟨0, 0, none⟩) d.length ka) (.slice (some ⟨1, 0, none⟩) r.length kb) q.fl q.cnt)] (@copy16_s q d dj r rj ka kb ro (by omega) (by omega)) i2_ ⟨uC_b, uC_b, ⟨⟩⟩ ?_))
  rintro hn9 v9 k9 ⟨rfl, rfl⟩
  refine mkG (stq q q.pc (s1 5 d.length) (s1 6 r.length) q.fl q.cnt) [(uCo (d ++ dj) ro), (uCo (r ++ rj) ro), some ⟨(slq q q.pc (.slice (some ⟨0, 0, none⟩) d.length ka) (.slice (some ⟨1, 0, none⟩) r.length kb) q.fl q.cnt), 27, false⟩, some ⟨[Value.int .i64 op, .int .u32 n], 30, false⟩, some ⟨(rlw 0 (.slice none 0 0) (.slice none 0 0) 0 false false false 0 0 0 0 0 false false 0 false false false (.slice none 0 0)), 52, false⟩, (uCo d false), (uCo r false)] ⟨cvs 0 hn9, cvs 1 hn9, cvo, cvo, cvo, uC_c 2, uC_c 3, ⟨⟩⟩ ?_
  refine sd_run 14 (sd_drawQ [(1, 4)] kr kr ?_)
  refine sq_run 1 ?_
  refine sq_rd 33 (.int .u32 q.pc) (.pointer (some ⟨2, 0, none⟩)) 22 kr kr kr kr (veq_int _ _) kr ?_
  refine sq_run 2 ?_
  refine sq_ask 36 (.int .i64 (sizeZ op)) 43 #[.int .i64 op] kr kr kr rfl ⟨kr, kr, kr⟩ ?_
  refine sq_see 36 (.int .i64 2) (see_int (x := (sizeZ op)) kr hsz) ?_
  refine sq_run 5 ?_
  refine sq_end kr ?_
  refine sd_run 38 (sdF 33 ((op : Int) ≤ 8) (by omega) kr (sd_run 9 (sdF 40 ((op : Int) ≤ 25) (by omega) kr (sd_run 9 (sdT 92 ((op : Int) ≤ 40) (by omega) kr (sd_run 30 (sd_ask 18 (.tuple #[.bool (hB op q.fl), .bool (hK op)]) 79 #[.int .i64 op, .int .u32 q.fl] kr kr kr (orc79 op q.fl (u32B_of (by omega))) ?_)))))))
  refine sd_run 2 (sd_see 19 (.bool true) (see_bool kr hb0) (sd_run 16 (sdN 24 (op : Int) 39 (by omega) kr (sd_run 7 (sdN 55 (op : Int) 40 (by omega) kr (sd_run 7 (sdN 86 (op : Int) 38 (by omega) kr ?_)))))))
  refine sd_run 7 (sdN 98 (op : Int) 32 (by omega) kr (sd_run 18 (sd_ask 104 (.int .u32 (sgF n)) 80 #[.int .u32 n] kr kr kr (orc80 n (u32B_of (by omega))) (sd_see 104 (.int .u32 (signZ n)) (see_int (x := (sgF n)) kr (sgF_sign (by omega))) (sd_run 62 ?_)))))
  refine sdZ (rsq q (IntKind.u32.wrap ((IntKind.u32.wrap (q.pc + 2)) + (signZ n))) (s1 5 d.length) (s1 6 r.length) q.fl (IntKind.u64.wrap (q.cnt + 1)) false false (.slice none 0 0)) hX (rsq q (IntKind.u32.wrap ((IntKind.u32.wrap (q.pc + 2)) + (signZ n))) (s1 2 d.length) (s1 3 r.length) q.fl (IntKind.u64.wrap (q.cnt + 1)) false false (.slice none 0 0)) [(uCo (d ++ dj) ro), (uCo (r ++ rj) ro), (uCo (d ++ []) false), (uCo (r ++ []) false)] [some 0, some 1, some 5, some 6] ⟨uC_b, uC_b, bk_flat (tab uC d) kr (tab_plain uC_pl _) (congrArg (tab uC) (List.append_nil _).symm), bk_flat (tab uC r) kr (tab_plain uC_pl _) (congrArg (tab uC) (List.append_nil _).symm), ⟨⟩⟩ ⟨d, [], r, [], q.fl, (IntKind.u32.wrap ((IntKind.u32.wrap (q.pc + 2)) + (signZ n))), (jcc_D hop), (jcc_R hop), (jcc_F hop), (by rw [hsz]; exact (jcc_P1 hop hb0).symm), rfl, rfl⟩
 ·skip
  refine scall_sd 72 _ 2 kr f16_fn f16_body rfl rfl rfl fun X hX => ?_
  refine sd_run 11 (sdCp 13 41 #[(stq q q.pc (.slice (some ⟨0, 0, none⟩) d.length ka) (.slice (some ⟨1, 0, none⟩) r.length kb) q.fl q.cnt)] (@stright16_s q d dj r rj ka kb ro ) i2_ ⟨uC_b, uC_b, ⟨⟩⟩ ?_)
  rintro v9 k9 ⟨rfl, rfl⟩
  refine ⟨rfl, .bool (stOk d r q.fl), kr, ?_⟩
  refine sd_see 13 (.bool true) (see_bool kr hst) (sd_run 20 (sdCp 26 22 #[(stq q q.pc (.slice (some ⟨0, 0, none⟩) d.length ka) (.slice (some ⟨1, 0, none⟩) r.length kb) q.fl q.cnt), .agg #[.int .i64 op, .int .u32 n]] (@check_s q d dj r rj ka kb op n ro hpl hri hdl hrl) i2_ ⟨uC_b, uC_b, ⟨⟩⟩ ?_))
  rintro v9 k9 ⟨rfl, rfl⟩
  refine ⟨rfl, .int .i64 (chkZ op d.length r.length), kr, ?_⟩
  refine sd_see 26 (.int .i64 0) (see_int kr (chk_ok hc)) (sd_run 7 (sdC 28 21 #[(stq q q.pc (.slice (some ⟨0, 0, none⟩) d.length ka) (.slice (some ⟨1, 0, none⟩) r.length kb) q.fl q.cnt)] (@copy16_s q d dj r rj ka kb ro (by omega) (by omega)) i2_ ⟨uC_b, uC_b, ⟨⟩⟩ ?_))
  rintro hn9 v9 k9 ⟨rfl, rfl⟩
  refine mkG (stq q q.pc (s1 5 d.length) (s1 6 r.length) q.fl q.cnt) [(uCo (d ++ dj) ro), (uCo (r ++ rj) ro), some ⟨(slq q q.pc (.slice (some ⟨0, 0, none⟩) d.length ka) (.slice (some ⟨1, 0, none⟩) r.length kb) q.fl q.cnt), 27, false⟩, some ⟨[Value.int .i64 op, .int .u32 n], 30, false⟩, some ⟨(rlw 0 (.slice none 0 0) (.slice none 0 0) 0 false false false 0 0 0 0 0 false false 0 false false false (.slice none 0 0)), 52, false⟩, (uCo d false), (uCo r false)] ⟨cvs 0 hn9, cvs 1 hn9, cvo, cvo, cvo, uC_c 2, uC_c 3, ⟨⟩⟩ ?_
  refine sd_run 14 (sd_drawQ [(1, 4)] kr kr ?_)
  refine sq_run 1 ?_
  refine sq_rd 33 (.int .u32 q.pc) (.pointer (some ⟨2, 0, none⟩)) 22 kr kr kr kr (veq_int _ _) kr ?_
  refine sq_run 2 ?_
  refine sq_ask 36 (.int .i64 (sizeZ op)) 43 #[.int .i64 op] kr kr kr rfl ⟨kr, kr, kr⟩ ?_
  refine sq_see 36 (.int .i64 2) (see_int (x := (sizeZ op)) kr hsz) ?_
  refine sq_run 5 ?_
  refine sq_end kr ?_
  refine sd_run 38 (sdF 33 ((op : Int) ≤ 8) (by omega) kr (sd_run 9 (sdF 40 ((op : Int) ≤ 25) (by omega) kr (sd_run 9 (sdT 92 ((op : Int) ≤ 40) (by omega) kr (sd_run 30 (sd_ask 18 (.tuple #[.bool (hB op q.fl), .bool (hK op)]) 79 #[.int .i64 op, .int .u32 q.fl] kr kr kr (orc79 op q.fl (u32B_of (by omega))) ?_)))))))
  refine sd_run 2 (sd_see 19 (.bool false) (see_bool kr hb0) (sd_run 16 (sdN 24 (op : Int) 39 (by omega) kr (sd_run 7 (sdN 55 (op : Int) 40 (by omega) kr (sd_run 7 (sdN 86 (op : Int) 38 (by omega) kr ?_)))))))
  refine sd_run 7 (sdN 98 (op : Int) 32 (by omega) kr (sd_run 71 ?_))
  refine sdZ (rsq q (IntKind.u32.wrap (q.pc + 2)) (s1 5 d.length) (s1 6 r.length) q.fl (IntKind.u64.wrap (q.cnt + 1)) false false (.slice none 0 0)) hX (rsq q (IntKind.u32.wrap (q.pc + 2)) (s1 2 d.length) (s1 3 r.length) q.fl (IntKind.u64.wrap (q.cnt + 1)) false false (.slice none 0 0)) [(uCo (d ++ dj) ro), (uCo (r ++ rj) ro), (uCo (d ++ []) false), (uCo (r ++ []) false)] [some 0, some 1, some 5, some 6] ⟨uC_b, uC_b, bk_flat (tab uC d) kr (tab_plain uC_pl _) (congrArg (tab uC) (List.append_nil _).symm), bk_flat (tab uC r) kr (tab_plain uC_pl _) (congrArg (tab uC) (List.append_nil _).symm), ⟨⟩⟩ ⟨d, [], r, [], q.fl, (IntKind.u32.wrap (q.pc + 2)), (jcc_D hop), (jcc_R hop), (jcc_F hop), (by rw [hsz]; exact (jcc_P0 hop hb0).symm), rfl, rfl⟩
set_option maxHeartbeats 2000000 in
theorem pdo_38 {q : Sx} {d dj rj : List Int} {r : List Int} {n : Int} {ro : Bool} {ka kb : Nat} (hdl : d.length ≤ 16) (hrl : r.length ≤ 16) (hfl : 0 ≤ q.fl ∧ q.fl ≤ 15) (hc : canM 38 d.length r.length = true) (hn : 0 ≤ n ∧ n ≤ 255) : SCall Try.prog T20 16 #[(stq q q.pc (.slice (some ⟨0, 0, none⟩) d.length ka) (.slice (some ⟨1, 0, none⟩) r.length kb) q.fl q.cnt), .agg #[.int .i64 38, .int .u32 n], .pointer none, .pointer none] (hq [(uCo (d ++ dj) ro), (uCo (r ++ rj) ro)]) fun v h => ∃ (D1 j1 R1 k1 : List Int) (fl1 pc1 : Int), D1 = doD 38 n d r ∧ R1 = doRs 38 (IntKind.u32.wrap (q.pc + sizeZ 38)) d r ∧ fl1 = doFl 38 d q.fl ∧ pc1 = doPc 38 n (IntKind.u32.wrap (q.pc + sizeZ 38)) d r q.fl ∧ v = (rsq q pc1 (s1 2 D1.length) (s1 3 R1.length) fl1 (IntKind.u64.wrap (q.cnt + 1)) false false (.slice none 0 0)) ∧ h = hq [(uCo (d ++ dj) ro), (uCo (r ++ rj) ro), (uCo (D1 ++ j1) false), (uCo (R1 ++ k1) false)] := by
 have hst : stOk d r q.fl = true := by simp [stOk]; (try simp at hdl); (try simp at hrl); omega
 have hri : rightI 38 n = true := by simp [rightI, sizeZ]; omega
 refine scall_sd 72 _ 2 kr f16_fn f16_body rfl rfl rfl fun X hX => ?_
 refine sd_run 11 (sdCp 13 41 #[(stq q q.pc (.slice (some ⟨0, 0, none⟩) d.length ka) (.slice (some ⟨1, 0, none⟩) r.length kb) q.fl q.cnt)] (@stright16_s q d dj r rj ka kb ro ) i2_ ⟨uC_b, uC_b, ⟨⟩⟩ ?_)
 rintro v9 k9 ⟨rfl, rfl⟩
 refine ⟨rfl, .bool (stOk d r q.fl), kr, ?_⟩
 refine sd_see 13 (.bool true) (see_bool kr hst) (sd_run 20 (sdCp 26 22 #[(stq q q.pc (.slice (some ⟨0, 0, none⟩) d.length ka) (.slice (some ⟨1, 0, none⟩) r.length kb) q.fl q.cnt), .agg #[.int .i64 38, .int .u32 n]] (@check_s q d dj r rj ka kb 38 n ro rfl hri hdl hrl) i2_ ⟨uC_b, uC_b, ⟨⟩⟩ ?_))
 rintro v9 k9 ⟨rfl, rfl⟩
 refine ⟨rfl, .int .i64 (chkZ 38 d.length r.length), kr, ?_⟩
 refine sd_see 26 (.int .i64 0) (see_int kr (chk_ok hc)) (sd_run 7 (sdC 28 21 #[(stq q q.pc (.slice (some ⟨0, 0, none⟩) d.length ka) (.slice (some ⟨1, 0, none⟩) r.length kb) q.fl q.cnt)] (@copy16_s q d dj r rj ka kb ro (by omega) (by omega)) i2_ ⟨uC_b, uC_b, ⟨⟩⟩ ?_))
 rintro hn9 v9 k9 ⟨rfl, rfl⟩
 refine mkG (stq q q.pc (s1 5 d.length) (s1 6 r.length) q.fl q.cnt) [(uCo (d ++ dj) ro), (uCo (r ++ rj) ro), some ⟨(slq q q.pc (.slice (some ⟨0, 0, none⟩) d.length ka) (.slice (some ⟨1, 0, none⟩) r.length kb) q.fl q.cnt), 27, false⟩, some ⟨[Value.int .i64 38, .int .u32 n], 30, false⟩, some ⟨(rlw 0 (.slice none 0 0) (.slice none 0 0) 0 false false false 0 0 0 0 0 false false 0 false false false (.slice none 0 0)), 52, false⟩, (uCo d false), (uCo r false)] ⟨cvs 0 hn9, cvs 1 hn9, cvo, cvo, cvo, uC_c 2, uC_c 3, ⟨⟩⟩ ?_
 refine sd_run 14 (sd_drawQ [(1, 4)] kr kr ?_)
 refine sq_run 1 ?_
 refine sq_rd 33 (.int .u32 q.pc) (.pointer (some ⟨2, 0, none⟩)) 22 kr kr kr kr (veq_int _ _) kr ?_
 refine sq_run 2 ?_
 refine sq_ask 36 (.int .i64 (sizeZ 38)) 43 #[.int .i64 38] kr kr kr rfl ⟨kr, kr, kr⟩ ?_
 refine sq_see 36 (.int .i64 2) (see_int (x := (sizeZ 38)) kr (by simp [sizeZ, namedB])) ?_
 refine sq_run 5 ?_
 refine sq_end kr ?_
 refine sd_run 86 (sd_ask 18 (.tuple #[.bool (hB 38 q.fl), .bool (hK 38)]) 79 #[.int .i64 38, .int .u32 q.fl] kr kr kr (orc79 38 q.fl (u32B_of (by omega))) (sd_run 2 (sd_see 19 (.bool false) (see_bool (x := hB 38 q.fl) kr (by simp [hB])) (sd_run 43 (sd_grow 94 24 24 22 0 3 6 r.length 1 12 (.slice (some ⟨11, 0, none⟩) 1 1) (tab uC r) [Value.int .u32 (IntKind.u32.wrap (q.pc + 2))] (tab uC (r ++ [(IntKind.u32.wrap (q.pc + 2))])) kr kr kr kr kr ((tab_len uC_len _).trans (by first | rfl | (simp only [List.length_append, List.length_cons, List.length_nil, List.length_set] at *; done))) kr kr (by decide) kr (by omega) kr (tab_snoc r (IntKind.u32.wrap (q.pc + 2))) (sd_see 94 (s1 12 ((r ++ [(IntKind.u32.wrap (q.pc + 2))]).length)) (see_len (n := (r.length + 1)) kr (by simp)) (sd_run 21 ?_)))))))
 refine sd_ask 104 (.int .u32 (sgF n)) 80 #[.int .u32 n] kr kr kr (orc80 n (u32B_of (by omega))) (sd_see 104 (.int .u32 (signZ n)) (see_int (x := (sgF n)) kr (sgF_sign (by omega))) (sd_run 62 ?_))
 refine sdZ (rsq q (IntKind.u32.wrap ((IntKind.u32.wrap (q.pc + 2)) + (signZ n))) (s1 5 d.length) (s1 12 ((r ++ [(IntKind.u32.wrap (q.pc + 2))]).length)) q.fl (IntKind.u64.wrap (q.cnt + 1)) false false (.slice none 0 0)) hX (rsq q (IntKind.u32.wrap ((IntKind.u32.wrap (q.pc + 2)) + (signZ n))) (s1 2 d.length) (s1 3 ((r ++ [(IntKind.u32.wrap (q.pc + 2))]).length)) q.fl (IntKind.u64.wrap (q.cnt + 1)) false false (.slice none 0 0)) [(uCo (d ++ dj) ro), (uCo (r ++ rj) ro), (uCo (d ++ []) false), (uCo ((r ++ [(IntKind.u32.wrap (q.pc + 2))]) ++ []) false)] [some 0, some 1, some 5, some 12] ⟨uC_b, uC_b, bk_flat (tab uC d) kr (tab_plain uC_pl _) (congrArg (tab uC) (List.append_nil _).symm), bk_flat (tab uC (r ++ [(IntKind.u32.wrap (q.pc + 2))])) kr (tab_plain uC_pl _) (congrArg (tab uC) (List.append_nil _).symm), ⟨⟩⟩ ⟨d, [], (r ++ [(IntKind.u32.wrap (q.pc + 2))]), [], q.fl, (IntKind.u32.wrap ((IntKind.u32.wrap (q.pc + 2)) + (signZ n))), (by simp [doD, doRs, doFl, doPc, tpk1, lss1, tpk21, tpk22, lss22]), (by simp [doD, doRs, doFl, doPc, tpk1, lss1, tpk21, tpk22, lss22]; rfl), (by simp [doD, doRs, doFl, doPc, tpk1, lss1, tpk21, tpk22, lss22]), (by simp [doD, doRs, doFl, doPc, tpk1, lss1, tpk21, tpk22, lss22, hB]; rfl), rfl, rfl⟩
set_option maxHeartbeats 2000000 in
theorem pdo_39 {q : Sx} {d dj rj : List Int} {f : List Int} {c : Int} {n : Int} {ro : Bool} {ka kb : Nat} (hdl : d.length ≤ 16) (hrl : (f ++ [c]).length ≤ 16) (hfl : 0 ≤ q.fl ∧ q.fl ≤ 15) (hc : canM 39 d.length (f ++ [c]).length = true) : SCall Try.prog T20 16 #[(stq q q.pc (.slice (some ⟨0, 0, none⟩) d.length ka) (.slice (some ⟨1, 0, none⟩) ((f ++ [c]).length) kb) q.fl q.cnt), .agg #[.int .i64 39, .int .u32 0], .pointer none, .pointer none] (hq [(uCo (d ++ dj) ro), (uCo ((f ++ [c]) ++ rj) ro)]) fun v h => ∃ (D1 j1 R1 k1 : List Int) (fl1 pc1 : Int), D1 = doD 39 0 d (f ++ [c]) ∧ R1 = doRs 39 (IntKind.u32.wrap (q.pc + sizeZ 39)) d (f ++ [c]) ∧ fl1 = doFl 39 d q.fl ∧ pc1 = doPc 39 0 (IntKind.u32.wrap (q.pc + sizeZ 39)) d (f ++ [c]) q.fl ∧ v = (rsq q pc1 (s1 2 D1.length) (s1 3 R1.length) fl1 (IntKind.u64.wrap (q.cnt + 1)) false false (.slice none 0 0)) ∧ h = hq [(uCo (d ++ dj) ro), (uCo ((f ++ [c]) ++ rj) ro), (uCo (D1 ++ j1) false), (uCo (R1 ++ k1) false)] := by
 have hrl2 := hrl; rw [List.length_append] at hrl2; simp only [List.length_cons, List.length_nil] at hrl2
 have hst : stOk d (f ++ [c]) q.fl = true := by simp [stOk]; (try simp at hdl); (try simp at hrl); omega
 refine scall_sd 72 _ 2 kr f16_fn f16_body rfl rfl rfl fun X hX => ?_
 refine sd_run 11 (sdCp 13 41 #[(stq q q.pc (.slice (some ⟨0, 0, none⟩) d.length ka) (.slice (some ⟨1, 0, none⟩) ((f ++ [c]).length) kb) q.fl q.cnt)] (@stright16_s q d dj (f ++ [c]) rj ka kb ro ) i2_ ⟨uC_b, uC_b, ⟨⟩⟩ ?_)
 rintro v9 k9 ⟨rfl, rfl⟩
 refine ⟨rfl, .bool (stOk d (f ++ [c]) q.fl), kr, ?_⟩
 refine sd_see 13 (.bool true) (see_bool kr hst) (sd_run 20 (sdCp 26 22 #[(stq q q.pc (.slice (some ⟨0, 0, none⟩) d.length ka) (.slice (some ⟨1, 0, none⟩) ((f ++ [c]).length) kb) q.fl q.cnt), .agg #[.int .i64 39, .int .u32 0]] (@check_s q d dj (f ++ [c]) rj ka kb 39 0 ro rfl rfl hdl hrl) i2_ ⟨uC_b, uC_b, ⟨⟩⟩ ?_))
 rintro v9 k9 ⟨rfl, rfl⟩
 refine ⟨rfl, .int .i64 (chkZ 39 d.length (f ++ [c]).length), kr, ?_⟩
 refine sd_see 26 (.int .i64 0) (see_int kr (chk_ok hc)) (sd_run 7 (sdC 28 21 #[(stq q q.pc (.slice (some ⟨0, 0, none⟩) d.length ka) (.slice (some ⟨1, 0, none⟩) ((f ++ [c]).length) kb) q.fl q.cnt)] (@copy16_s q d dj (f ++ [c]) rj ka kb ro (by omega) (by omega)) i2_ ⟨uC_b, uC_b, ⟨⟩⟩ ?_))
 rintro hn9 v9 k9 ⟨rfl, rfl⟩
 refine mkG (stq q q.pc (s1 5 d.length) (s1 6 ((f ++ [c]).length)) q.fl q.cnt) [(uCo (d ++ dj) ro), (uCo ((f ++ [c]) ++ rj) ro), some ⟨(slq q q.pc (.slice (some ⟨0, 0, none⟩) d.length ka) (.slice (some ⟨1, 0, none⟩) ((f ++ [c]).length) kb) q.fl q.cnt), 27, false⟩, some ⟨[Value.int .i64 39, .int .u32 0], 30, false⟩, some ⟨(rlw 0 (.slice none 0 0) (.slice none 0 0) 0 false false false 0 0 0 0 0 false false 0 false false false (.slice none 0 0)), 52, false⟩, (uCo d false), (uCo (f ++ [c]) false)] ⟨cvs 0 hn9, cvs 1 hn9, cvo, cvo, cvo, uC_c 2, uC_c 3, ⟨⟩⟩ ?_
 refine sd_run 14 (sd_drawQ [(1, 4)] kr kr ?_)
 refine sq_run 1 ?_
 refine sq_rd 33 (.int .u32 q.pc) (.pointer (some ⟨2, 0, none⟩)) 22 kr kr kr kr (veq_int _ _) kr ?_
 refine sq_run 2 ?_
 refine sq_ask 36 (.int .i64 (sizeZ 39)) 43 #[.int .i64 39] kr kr kr rfl ⟨kr, kr, kr⟩ ?_
 refine sq_see 36 (.int .i64 1) (see_int (x := (sizeZ 39)) kr (by simp [sizeZ, namedB])) ?_
 refine sq_run 5 ?_
 refine sq_end kr ?_
 refine sd_run 86 (sd_ask 18 (.tuple #[.bool (hB 39 q.fl), .bool (hK 39)]) 79 #[.int .i64 39, .int .u32 q.fl] kr kr kr (orc79 39 q.fl (u32B_of (by omega))) (sd_run 2 (sd_see 19 (.bool false) (see_bool (x := hB 39 q.fl) kr (by simp [hB])) (sd_run 32 (sd_see 34 (.int .i64 (((f.length + 1) : Nat) : Int)) (see_int (x := ((f ++ [c]).length : Int)) kr (by simp)) (sd_run 1 (sd_see 35 (.int .i64 (f.length : Int)) (see_int (x := (IntKind.i64.wrap ((((f.length + 1) : Nat) : Int) - 1))) kr (by rw [show ((((f.length + 1) : Nat) : Int) - 1 : Int) = (f.length : Int) by omega]; exact w64 rfl (by omega) (by omega))) ?_)))))))
 refine sd_ix 36 (.pointer (some ⟨6, 0 + f.length * 1, none⟩)) f.length ((f ++ [c]).length) kr kr kr (by first | omega | (simp; done) | (simp; omega)) (sd_ld 37 (.int .u32 c) 22 (.pointer (some ⟨6, 0 + f.length * 1, none⟩)) kr kr kr (ld_cell (l := f ++ [c]) (e := 22) (ro := false) (k := f.length) (j := 0) uC_len kr kr kr (at0 f c []) rfl) (sd_run 17 (sd_see 49 (.int .i64 (((f.length + 1) : Nat) : Int)) (see_int (x := ((f ++ [c]).length : Int)) kr (by simp)) (sd_run 1 (sd_see 50 (.int .i64 (f.length : Int)) (see_int (x := (IntKind.i64.wrap ((((f.length + 1) : Nat) : Int) - 1))) kr (by rw [show ((((f.length + 1) : Nat) : Int) - 1 : Int) = (f.length : Int) by omega]; exact w64 rfl (by omega) (by omega))) (sd_slh 51 24 22 1 6 0 ((f ++ [c]).length) f.length .i64 kr kr kr kr kr (by first | omega | (simp; done) | (simp; omega)) (sd_run 65 ?_)))))))
 refine sdZ (rsq q c (s1 5 d.length) (s1 6 f.length) q.fl (IntKind.u64.wrap (q.cnt + 1)) false false (.slice none 0 0)) hX (rsq q c (s1 2 d.length) (s1 3 f.length) q.fl (IntKind.u64.wrap (q.cnt + 1)) false false (.slice none 0 0)) [(uCo (d ++ dj) ro), (uCo ((f ++ [c]) ++ rj) ro), (uCo (d ++ []) false), (uCo (f ++ ([c])) false)] [some 0, some 1, some 5, some 6] ⟨uC_b, uC_b, bk_flat (tab uC d) kr (tab_plain uC_pl _) (congrArg (tab uC) (List.append_nil _).symm), bk_flat (tab uC (f ++ [c])) kr (tab_plain uC_pl _) (by rfl), ⟨⟩⟩ ⟨d, [], f, ([c]), q.fl, c, (by simp [doD, doRs, doFl, doPc, tpk1, lss1, tpk21, tpk22, lss22]), (by simp [doD, doRs, doFl, doPc, tpk1, lss1, tpk21, tpk22, lss22]), (by simp [doD, doRs, doFl, doPc, tpk1, lss1, tpk21, tpk22, lss22]), (by simp [doD, doRs, doFl, doPc, tpk1, lss1, tpk21, tpk22, lss22, hB]), rfl, rfl⟩
set_option maxHeartbeats 2000000 in
theorem pdo_40 {q : Sx} {e dj rj : List Int} {a : Int} {r : List Int} {n : Int} {ro : Bool} {ka kb : Nat} (hdl : (e ++ [a]).length ≤ 16) (hrl : r.length ≤ 16) (hfl : 0 ≤ q.fl ∧ q.fl ≤ 15) (hc : canM 40 (e ++ [a]).length r.length = true) : SCall Try.prog T20 16 #[(stq q q.pc (.slice (some ⟨0, 0, none⟩) ((e ++ [a]).length) ka) (.slice (some ⟨1, 0, none⟩) r.length kb) q.fl q.cnt), .agg #[.int .i64 40, .int .u32 0], .pointer none, .pointer none] (hq [(uCo ((e ++ [a]) ++ dj) ro), (uCo (r ++ rj) ro)]) fun v h => ∃ (D1 j1 R1 k1 : List Int) (fl1 pc1 : Int), D1 = doD 40 0 (e ++ [a]) r ∧ R1 = doRs 40 (IntKind.u32.wrap (q.pc + sizeZ 40)) (e ++ [a]) r ∧ fl1 = doFl 40 (e ++ [a]) q.fl ∧ pc1 = doPc 40 0 (IntKind.u32.wrap (q.pc + sizeZ 40)) (e ++ [a]) r q.fl ∧ v = (rsq q pc1 (s1 2 D1.length) (s1 3 R1.length) fl1 (IntKind.u64.wrap (q.cnt + 1)) false false (.slice none 0 0)) ∧ h = hq [(uCo ((e ++ [a]) ++ dj) ro), (uCo (r ++ rj) ro), (uCo (D1 ++ j1) false), (uCo (R1 ++ k1) false)] := by
 have hdl2 := hdl; rw [List.length_append] at hdl2; simp only [List.length_cons, List.length_nil] at hdl2
 have hst : stOk (e ++ [a]) r q.fl = true := by simp [stOk]; (try simp at hdl); (try simp at hrl); omega
 refine scall_sd 72 _ 2 kr f16_fn f16_body rfl rfl rfl fun X hX => ?_
 refine sd_run 11 (sdCp 13 41 #[(stq q q.pc (.slice (some ⟨0, 0, none⟩) ((e ++ [a]).length) ka) (.slice (some ⟨1, 0, none⟩) r.length kb) q.fl q.cnt)] (@stright16_s q (e ++ [a]) dj r rj ka kb ro ) i2_ ⟨uC_b, uC_b, ⟨⟩⟩ ?_)
 rintro v9 k9 ⟨rfl, rfl⟩
 refine ⟨rfl, .bool (stOk (e ++ [a]) r q.fl), kr, ?_⟩
 refine sd_see 13 (.bool true) (see_bool kr hst) (sd_run 20 (sdCp 26 22 #[(stq q q.pc (.slice (some ⟨0, 0, none⟩) ((e ++ [a]).length) ka) (.slice (some ⟨1, 0, none⟩) r.length kb) q.fl q.cnt), .agg #[.int .i64 40, .int .u32 0]] (@check_s q (e ++ [a]) dj r rj ka kb 40 0 ro rfl rfl hdl hrl) i2_ ⟨uC_b, uC_b, ⟨⟩⟩ ?_))
 rintro v9 k9 ⟨rfl, rfl⟩
 refine ⟨rfl, .int .i64 (chkZ 40 (e ++ [a]).length r.length), kr, ?_⟩
 refine sd_see 26 (.int .i64 0) (see_int kr (chk_ok hc)) (sd_run 7 (sdC 28 21 #[(stq q q.pc (.slice (some ⟨0, 0, none⟩) ((e ++ [a]).length) ka) (.slice (some ⟨1, 0, none⟩) r.length kb) q.fl q.cnt)] (@copy16_s q (e ++ [a]) dj r rj ka kb ro (by omega) (by omega)) i2_ ⟨uC_b, uC_b, ⟨⟩⟩ ?_))
 rintro hn9 v9 k9 ⟨rfl, rfl⟩
 refine mkG (stq q q.pc (s1 5 ((e ++ [a]).length)) (s1 6 r.length) q.fl q.cnt) [(uCo ((e ++ [a]) ++ dj) ro), (uCo (r ++ rj) ro), some ⟨(slq q q.pc (.slice (some ⟨0, 0, none⟩) ((e ++ [a]).length) ka) (.slice (some ⟨1, 0, none⟩) r.length kb) q.fl q.cnt), 27, false⟩, some ⟨[Value.int .i64 40, .int .u32 0], 30, false⟩, some ⟨(rlw 0 (.slice none 0 0) (.slice none 0 0) 0 false false false 0 0 0 0 0 false false 0 false false false (.slice none 0 0)), 52, false⟩, (uCo (e ++ [a]) false), (uCo r false)] ⟨cvs 0 hn9, cvs 1 hn9, cvo, cvo, cvo, uC_c 2, uC_c 3, ⟨⟩⟩ ?_
 refine sd_run 14 (sd_drawQ [(1, 4)] kr kr ?_)
 refine sq_run 1 ?_
 refine sq_rd 33 (.int .u32 q.pc) (.pointer (some ⟨2, 0, none⟩)) 22 kr kr kr kr (veq_int _ _) kr ?_
 refine sq_run 2 ?_
 refine sq_ask 36 (.int .i64 (sizeZ 40)) 43 #[.int .i64 40] kr kr kr rfl ⟨kr, kr, kr⟩ ?_
 refine sq_see 36 (.int .i64 1) (see_int (x := (sizeZ 40)) kr (by simp [sizeZ, namedB])) ?_
 refine sq_run 5 ?_
 refine sq_end kr ?_
 refine sd_run 28 (sd_see 22 (.int .i64 (((e.length + 1) : Nat) : Int)) (see_int (x := ((e ++ [a]).length : Int)) kr (by simp)) (sd_run 58 (sd_ask 18 (.tuple #[.bool (hB 40 q.fl), .bool (hK 40)]) 79 #[.int .i64 40, .int .u32 q.fl] kr kr kr (orc79 40 q.fl (u32B_of (by omega))) (sd_run 2 (sd_see 19 (.bool false) (see_bool (x := hB 40 q.fl) kr (by simp [hB])) (sd_run 39 (sd_see 65 (.int .i64 (((e.length + 1) : Nat) : Int)) (see_int (x := ((e ++ [a]).length : Int)) kr (by simp)) ?_)))))))
 refine sd_run 1 (sd_see 66 (.int .i64 (e.length : Int)) (see_int (x := (IntKind.i64.wrap ((((e.length + 1) : Nat) : Int) - 1))) kr (by rw [show ((((e.length + 1) : Nat) : Int) - 1 : Int) = (e.length : Int) by omega]; exact w64 rfl (by omega) (by omega))) (sd_ix 67 (.pointer (some ⟨5, 0 + e.length * 1, none⟩)) e.length ((e ++ [a]).length) kr kr kr (by first | omega | (simp; done) | (simp; omega)) (sd_ld 68 (.int .u32 a) 22 (.pointer (some ⟨5, 0 + e.length * 1, none⟩)) kr kr kr (ld_cell (l := e ++ [a]) (e := 22) (ro := false) (k := e.length) (j := 0) uC_len kr kr kr (at0 e a []) rfl) (sd_run 17 (sd_see 80 (.int .i64 (((e.length + 1) : Nat) : Int)) (see_int (x := ((e ++ [a]).length : Int)) kr (by simp)) (sd_run 1 (sd_see 81 (.int .i64 (e.length : Int)) (see_int (x := (IntKind.i64.wrap ((((e.length + 1) : Nat) : Int) - 1))) kr (by rw [show ((((e.length + 1) : Nat) : Int) - 1 : Int) = (e.length : Int) by omega]; exact w64 rfl (by omega) (by omega))) ?_)))))))
 refine sd_slh 82 24 22 1 5 0 ((e ++ [a]).length) e.length .i64 kr kr kr kr kr (by first | omega | (simp; done) | (simp; omega)) (sd_run 65 ?_)
 refine sdZ (rsq q a (s1 5 e.length) (s1 6 r.length) q.fl (IntKind.u64.wrap (q.cnt + 1)) false false (.slice none 0 0)) hX (rsq q a (s1 2 e.length) (s1 3 r.length) q.fl (IntKind.u64.wrap (q.cnt + 1)) false false (.slice none 0 0)) [(uCo ((e ++ [a]) ++ dj) ro), (uCo (r ++ rj) ro), (uCo (e ++ ([a])) false), (uCo (r ++ []) false)] [some 0, some 1, some 5, some 6] ⟨uC_b, uC_b, bk_flat (tab uC (e ++ [a])) kr (tab_plain uC_pl _) (by rfl), bk_flat (tab uC r) kr (tab_plain uC_pl _) (congrArg (tab uC) (List.append_nil _).symm), ⟨⟩⟩ ⟨e, ([a]), r, [], q.fl, a, (by simp [doD, doRs, doFl, doPc, tpk1, lss1, tpk21, tpk22, lss22]), (by simp [doD, doRs, doFl, doPc, tpk1, lss1, tpk21, tpk22, lss22]), (by simp [doD, doRs, doFl, doPc, tpk1, lss1, tpk21, tpk22, lss22]), (by simp [doD, doRs, doFl, doPc, tpk1, lss1, tpk21, tpk22, lss22, hB]), rfl, rfl⟩
end Ls
end Go.Proofs.Ytgpphhdndmdlgaa
