/- Chapter 19: the document: an instruction that traps. -/
import Derived.Test.YtgpphhdndmdlgaaKy
import Derived.Test.YtgpphhdndmdlgaaKm
namespace Go.Proofs.Ytgpphhdndmdlgaa
open Go Go.Ev Go.RowKit
set_option linter.unusedVariables false
set_option linter.unusedSimpArgs false
set_option maxRecDepth 100000
namespace Ls
theorem tpk1 (e : List Int) (a : Int) : tpk (e ++ [a]) 1 = a := tpk_snoc e a
theorem lss1 (e : List Int) (a : Int) : lss (e ++ [a]) 1 = e := lss_snoc e a
theorem tpk21 (e : List Int) (a b : Int) : tpk (e ++ [a, b]) 1 = b := by
 rw [show e ++ [a, b] = (e ++ [a]) ++ [b] by simp]; exact tpk_snoc _ _
theorem tpk22 (e : List Int) (a b : Int) : tpk (e ++ [a, b]) 2 = a := by
 rw [show e ++ [a, b] = (e ++ [a]) ++ [b] by simp, tpk_two _ _ (by simp)]; exact tpk_snoc _ _
theorem lss22 (e : List Int) (a b : Int) : lss (e ++ [a, b]) 2 = e := by
 rw [show e ++ [a, b] = (e ++ [a]) ++ [b] by simp, lss_two _ _ (by simp)]; exact lss_snoc _ _
theorem at0 (e : List Int) (a : Int) (l : List Int) : (e ++ a :: l)[e.length]? = some a := by simp
theorem at1 (e : List Int) (a b : Int) (l : List Int) : (e ++ a :: b :: l)[e.length + 1]? = some b := by simp
theorem set_at (e : List Int) (a b x : Int) : ((e ++ [a, b]).set (e.length + 1) x)[e.length]? = some a := by
 rw [List.getElem?_set, if_neg (by omega)]; simp
theorem swap_eq (e : List Int) (a b : Int) : ((e ++ [a, b]).set (e.length + 1) a).set e.length b = e ++ [b, a] := by
 simp
theorem sgF_sign {n : Int} (h : 0 ≤ n ∧ n < 4294967296) : sgF n = signZ n := by
 unfold sgF signZ
 by_cases h8 : 128 ≤ n % 256
 ·have e8 : IntKind.i8.wrap n = n % 256 - 256 := by
    show (if (true && decide (n % 2 ^ 8 ≥ 2 ^ (8 - 1))) = true then n % 2 ^ 8 - 2 ^ 8 else n % 2 ^ 8) = _
    rw [if_pos (by simp; omega)]; rfl
  have e32 : IntKind.i32.wrap (n % 256 - 256) = n % 256 - 256 := by
   show (if (true && decide ((n % 256 - 256) % 2 ^ 32 ≥ 2 ^ (32 - 1))) = true then (n % 256 - 256) % 2 ^ 32 - 2 ^ 32 else (n % 256 - 256) % 2 ^ 32) = _
   rw [if_pos (by simp; omega)]; simp; omega
  rw [e8, e32, if_pos h8, IntKind.wrap_u32]; omega
 ·have e8 : IntKind.i8.wrap n = n % 256 := by
    show (if (true && decide (n % 2 ^ 8 ≥ 2 ^ (8 - 1))) = true then n % 2 ^ 8 - 2 ^ 8 else n % 2 ^ 8) = _
    rw [if_neg (by simp; omega)]; rfl
  have e32 : IntKind.i32.wrap (n % 256) = n % 256 := by
   show (if (true && decide ((n % 256) % 2 ^ 32 ≥ 2 ^ (32 - 1))) = true then (n % 256) % 2 ^ 32 - 2 ^ 32 else (n % 256) % 2 ^ 32) = _
   rw [if_neg (by simp; omega)]; simp; omega
  rw [e8, e32, if_neg h8, IntKind.wrap_u32]; omega
theorem alu_size {op : Int} (h : 16 ≤ op ∧ op ≤ 23) : sizeZ op = 1 := by
 unfold sizeZ namedB; rw [if_neg (by omega), if_neg (by omega), if_pos (by simp; omega)]
theorem jcc_size {op : Int} (h : 33 ≤ op ∧ op ≤ 37) : sizeZ op = 2 := by unfold sizeZ; rw [if_pos (by omega)]
theorem alu_D {op : Int} (h : 16 ≤ op ∧ op ≤ 23) {n a b : Int} {e r : List Int} : e ++ [doR op a b] = doD op n (e ++ [a, b]) r := by
 unfold doD
 rw [if_neg (by omega), if_neg (by omega), if_neg (by omega), if_neg (by omega), if_neg (by omega), if_neg (by omega), if_neg (by omega), if_neg (by omega), if_pos (by omega), tpk21, tpk22, lss22]
theorem alu_R {op : Int} (h : 16 ≤ op ∧ op ≤ 23) {nx : Int} {d r : List Int} : r = doRs op nx d r := by unfold doRs; rw [if_neg (by omega), if_neg (by omega), if_neg (by omega), if_neg (by omega)]
theorem alu_F {op : Int} (h : 16 ≤ op ∧ op ≤ 23) {a b fl : Int} {e : List Int} : doF op a b = doFl op (e ++ [a, b]) fl := by unfold doFl; rw [if_pos (by omega), tpk21, tpk22]
theorem alu_P {op : Int} (h : 16 ≤ op ∧ op ≤ 23) {n nx fl : Int} {d r : List Int} : doPc op n nx d r fl = nx := by unfold doPc; rw [if_neg (by omega), if_neg (by omega), hB_no (by omega), if_neg (by simp; omega)]
theorem jcc_D {op : Int} (h : 33 ≤ op ∧ op ≤ 37) {n : Int} {d r : List Int} : d = doD op n d r := by unfold doD; repeat rw [if_neg (by omega)]
theorem jcc_R {op : Int} (h : 33 ≤ op ∧ op ≤ 37) {nx : Int} {d r : List Int} : r = doRs op nx d r := by unfold doRs; rw [if_neg (by omega), if_neg (by omega), if_neg (by omega), if_neg (by omega)]
theorem jcc_F {op : Int} (h : 33 ≤ op ∧ op ≤ 37) {fl : Int} {d : List Int} : fl = doFl op d fl := by unfold doFl; rw [if_neg (by omega)]
theorem jcc_P1 {op : Int} (h : 33 ≤ op ∧ op ≤ 37) {n nx fl : Int} {d r : List Int} (hb : hB op fl = true) : doPc op n nx d r fl = IntKind.u32.wrap (nx + signZ n) := by unfold doPc; rw [if_neg (by omega), if_neg (by omega), if_pos (by simp [hb])]
theorem jcc_P0 {op : Int} (h : 33 ≤ op ∧ op ≤ 37) {n nx fl : Int} {d r : List Int} (hb : hB op fl = false) : doPc op n nx d r fl = nx := by unfold doPc; rw [if_neg (by omega), if_neg (by omega), if_neg (by simp [hb]; omega)]
def chkZ (op : Int) (d r : Nat) : Int := if d < nD0 op ∨ r < nR0 op then 3 else if 16 < d - nD0 op + nD1 op ∨ 16 < r - nR0 op + nR1 op then 4 else 0
theorem chk_ok {op : Int} {d r : Nat} (h : canM op d r = true) : chkZ op d r = 0 := by
 have := canM_iff.1 h
 unfold chkZ; rw [if_neg (by omega), if_neg (by omega)]
theorem chk_no {op : Int} {d r : Nat} (h : canM op d r = false) : chkZ op d r = 3 ∨ chkZ op d r = 4 := by
 have : ¬ (nD0 op ≤ d ∧ nR0 op ≤ r ∧ d - nD0 op + nD1 op ≤ 16 ∧ r - nR0 op + nR1 op ≤ 16) := fun q => by rw [canM_iff.2 q] at h; cases h
 unfold chkZ
 by_cases h1 : d < nD0 op ∨ r < nR0 op
 ·rw [if_pos h1]; exact .inl rfl
 ·rw [if_neg h1, if_pos (by omega)]; exact .inr rfl
theorem need_le (op : Int) : nD0 op ≤ 2 ∧ nD1 op ≤ 3 ∧ nR0 op ≤ 1 ∧ nR1 op ≤ 1 := by
 unfold nD0 nD1 nR0 nR1
 refine ⟨?_, ?_, ?_, ?_⟩ <;> (repeat' split) <;> omega
theorem plain_in {op : Int} (h : plainB op = true) : (0 ≤ op ∧ op ≤ 8) ∨ (16 ≤ op ∧ op ≤ 25 ∧ op ≠ 24) ∨ (32 ≤ op ∧ op ≤ 40) := by unfold plainB at h; simp at h; omega
noncomputable def f22b : Code := Try.f22.body.getD .skip
theorem f22_body : Try.f22.body = some f22b := by kernel_rfl
theorem f22_fn : T20.fn 22 = some Try.f22 := by kernel_rfl
set_option maxHeartbeats 1000000 in
theorem check_s {q : Sx} {d dj r rj : List Int} {ka kb : Nat} {op n : Int} {ro : Bool} (hp : plainB op = true) (hri : rightI op n = true) (hdl : d.length ≤ 16) (hrl : r.length ≤ 16) : SCall Try.prog T20 22 #[(stq q q.pc (.slice (some ⟨0, 0, none⟩) d.length ka) (.slice (some ⟨1, 0, none⟩) r.length kb) q.fl q.cnt), .agg #[.int .i64 op, .int .u32 n]] (hq [(uCo (d ++ dj) ro), (uCo (r ++ rj) ro)]) fun v h => v = .int .i64 (chkZ op d.length r.length) ∧ h = hq [(uCo (d ++ dj) ro), (uCo (r ++ rj) ro)] := by
 obtain ⟨b0, b1, b2, b3⟩ := need_le op
 have hop := plain_in hp
 have hsu : superB op = false := by unfold superB; simp; omega
 refine scall_sd 84 _ 2 kr f22_fn f22_body rfl rfl rfl fun X hX => ?_
 refine sd_run 11 (sd_ask 8 (.agg #[.int .i64 (((nD0 op) : Nat) : Int), .int .i64 (((nD1 op) : Nat) : Int), .int .i64 (((nR0 op) : Nat) : Int), .int .i64 (((nR1 op) : Nat) : Int)]) 48 #[.int .i64 op] kr kr kr (orc48 op hp) (sd_run 9 (sd_ask 11 (.bool (rightI op n)) 49 #[.agg #[.int .i64 op, .int .u32 n]] kr kr kr rfl (sd_see 11 (.bool true) (see_bool kr hri) (sd_run 9 (sd_ask 16 (.bool (superB op)) 50 #[.int .i64 op] kr kr kr rfl (sd_see 16 (.bool false) (see_bool kr hsu) ?_)))))))
 refine sd_run 14 (sdN 25 (op : Int) 66 (by omega) kr (sd_run 4 (sdN 29 (op : Int) 67 (by omega) kr (sd_run 29 ?_))))
 rcases Bool.eq_false_or_eq_true (decide ((d.length : Int) < (((nD0 op) : Nat) : Int))) with hc1 | hc1
 ·skip
  refine sd_see 53 (.bool true) (see_bool kr hc1) (sd_run 19 ?_)
  simp only [bd] at hc1
  refine sdY (.int .i64 3) hX [(uCo (d ++ dj) ro), (uCo (r ++ rj) ro)] i2_ ⟨uC_b, uC_b, ⟨⟩⟩ ⟨(by congr 1; unfold chkZ; (repeat' split) <;> omega), rfl⟩
 ·skip
  refine sd_see 53 (.bool false) (see_bool kr hc1) (sd_run 10 ?_)
  rcases Bool.eq_false_or_eq_true (decide ((r.length : Int) < (((nR0 op) : Nat) : Int))) with hc2 | hc2
  ·skip
   refine sd_see 46 (.bool true) (see_bool kr hc2) (sd_run 9 ?_)
   simp only [bd] at hc1 hc2
   refine sdY (.int .i64 3) hX [(uCo (d ++ dj) ro), (uCo (r ++ rj) ro)] i2_ ⟨uC_b, uC_b, ⟨⟩⟩ ⟨(by congr 1; unfold chkZ; (repeat' split) <;> omega), rfl⟩
  ·skip
   refine sd_see 46 (.bool false) (see_bool kr hc2) (sd_run 9 (sd_see 67 (.int .i64 ((d.length : Int) - (((nD0 op) : Nat) : Int))) (see_int (x := (IntKind.i64.wrap ((d.length : Int) - (((nD0 op) : Nat) : Int)))) kr (w64 (by omega) (by omega) (by omega))) (sd_run 3 (sd_see 70 (.int .i64 (((d.length : Int) - (((nD0 op) : Nat) : Int)) + (((nD1 op) : Nat) : Int))) (see_int (x := (IntKind.i64.wrap (((d.length : Int) - (((nD0 op) : Nat) : Int)) + (((nD1 op) : Nat) : Int)))) kr (w64 (by omega) (by omega) (by omega))) (sd_run 2 ?_)))))
   rcases Bool.eq_false_or_eq_true (decide ((((d.length : Int) - (((nD0 op) : Nat) : Int)) + (((nD1 op) : Nat) : Int)) > 16)) with hc3 | hc3
   ·skip
    refine sd_see 72 (.bool true) (see_bool kr hc3) (sd_run 23 ?_)
    simp only [bd] at hc1 hc2 hc3
    refine sdY (.int .i64 4) hX [(uCo (d ++ dj) ro), (uCo (r ++ rj) ro)] i2_ ⟨uC_b, uC_b, ⟨⟩⟩ ⟨(by congr 1; unfold chkZ; (repeat' split) <;> omega), rfl⟩
   ·skip
    refine sd_see 72 (.bool false) (see_bool kr hc3) (sd_run 6 (sd_see 78 (.int .i64 ((r.length : Int) - (((nR0 op) : Nat) : Int))) (see_int (x := (IntKind.i64.wrap ((r.length : Int) - (((nR0 op) : Nat) : Int)))) kr (w64 (by omega) (by omega) (by omega))) (sd_run 3 (sd_see 81 (.int .i64 (((r.length : Int) - (((nR0 op) : Nat) : Int)) + (((nR1 op) : Nat) : Int))) (see_int (x := (IntKind.i64.wrap (((r.length : Int) - (((nR0 op) : Nat) : Int)) + (((nR1 op) : Nat) : Int)))) kr (w64 (by omega) (by omega) (by omega))) (sd_run 5 ?_)))))
    rcases Bool.eq_false_or_eq_true (decide ((((r.length : Int) - (((nR0 op) : Nat) : Int)) + (((nR1 op) : Nat) : Int)) > 16)) with hc4 | hc4
    ·skip
     refine sd_see 61 (.bool true) (see_bool kr hc4) (sd_run 9 ?_)
     simp only [bd] at hc1 hc2 hc3 hc4
     refine sdY (.int .i64 4) hX [(uCo (d ++ dj) ro), (uCo (r ++ rj) ro)] i2_ ⟨uC_b, uC_b, ⟨⟩⟩ ⟨(by congr 1; unfold chkZ; (repeat' split) <;> omega), rfl⟩
    ·skip
     refine sd_see 61 (.bool false) (see_bool kr hc4) (sd_run 10 ?_)
     simp only [bd] at hc1 hc2 hc3 hc4
     refine sdY (.int .i64 0) hX [(uCo (d ++ dj) ro), (uCo (r ++ rj) ro)] i2_ ⟨uC_b, uC_b, ⟨⟩⟩ ⟨(by congr 1; unfold chkZ; (repeat' split) <;> omega), rfl⟩
noncomputable def f45b : Code := Try.f45.body.getD .skip
theorem f45_body : Try.f45.body = some f45b := by kernel_rfl
theorem f45_fn : T20.fn 45 = some Try.f45 := by kernel_rfl
theorem trap_s {q : Sx} {d dj r rj : List Int} {ka kb : Nat} {cs ad : Int} {ro : Bool} (hd : d.length * 4 ≤ 140737488355328) (hr : r.length * 4 ≤ 140737488355328) : SCall Try.prog T20 45 #[(stq q q.pc (.slice (some ⟨0, 0, none⟩) d.length ka) (.slice (some ⟨1, 0, none⟩) r.length kb) q.fl q.cnt), .int .i64 cs, .int .u32 ad] (hq [(uCo (d ++ dj) ro), (uCo (r ++ rj) ro)]) fun v h => v = (stw q.vec (s1 2 d.length) (s1 3 r.length) q.fl true q.pg false q.root q.vec q.pc (IntKind.u32.wrap cs) ad q.su q.ie q.cnt q.ha) ∧ h = hq [(uCo (d ++ dj) ro), (uCo (r ++ rj) ro), (uCo d false), (uCo r false)] := by
 refine scall_sd 29 _ 2 kr f45_fn f45_body rfl rfl rfl fun X hX => ?_
 refine sd_run 9 (sdC 8 21 #[(stq q q.pc (.slice (some ⟨0, 0, none⟩) d.length ka) (.slice (some ⟨1, 0, none⟩) r.length kb) q.fl q.cnt)] (@copy16_s q d dj r rj ka kb ro hd hr) i2_ ⟨uC_b, uC_b, ⟨⟩⟩ ?_)
 rintro hn9 v9 k9 ⟨rfl, rfl⟩
 refine mkG (stq q q.pc (s1 4 d.length) (s1 5 r.length) q.fl q.cnt) [(uCo (d ++ dj) ro), (uCo (r ++ rj) ro), some ⟨(slq q q.pc (.slice (some ⟨0, 0, none⟩) d.length ka) (.slice (some ⟨1, 0, none⟩) r.length kb) q.fl q.cnt), 27, false⟩, some ⟨(slw 0 (.slice none 0 0) (.slice none 0 0) 0 false false false 0 0 0 0 0 false false 0 false), 27, false⟩, (uCo d false), (uCo r false)] ⟨cvs 0 hn9, cvs 1 hn9, cvo, cvo, uC_c 2, uC_c 3, ⟨⟩⟩ ?_
 refine sd_run 45 ?_
 refine sdZ (stw q.vec (s1 4 d.length) (s1 5 r.length) q.fl true q.pg false q.root q.vec q.pc (IntKind.u32.wrap cs) ad q.su q.ie q.cnt q.ha) hX (stw q.vec (s1 2 d.length) (s1 3 r.length) q.fl true q.pg false q.root q.vec q.pc (IntKind.u32.wrap cs) ad q.su q.ie q.cnt q.ha) [(uCo (d ++ dj) ro), (uCo (r ++ rj) ro), (uCo d false), (uCo r false)] [some 0, some 1, some 4, some 5] ⟨uC_b, uC_b, uC_b, uC_b, ⟨⟩⟩ ⟨rfl, rfl⟩
noncomputable def f16b : Code := Try.f16.body.getD .skip
theorem f16_body : Try.f16.body = some f16b := by kernel_rfl
theorem f16_fn : T20.fn 16 = some Try.f16 := by kernel_rfl
theorem do_trap {q : Sx} {d dj r rj : List Int} {ka kb : Nat} {op n : Int} {ro : Bool} (hp : plainB op = true) (hri : rightI op n = true) (hdl : d.length ≤ 16) (hrl : r.length ≤ 16) (hfl : q.fl ≤ 15) (hno : canM op d.length r.length = false) : SCall Try.prog T20 16 #[(stq q q.pc (.slice (some ⟨0, 0, none⟩) d.length ka) (.slice (some ⟨1, 0, none⟩) r.length kb) q.fl q.cnt), .agg #[.int .i64 op, .int .u32 n], .pointer none, .pointer none] (hq [(uCo (d ++ dj) ro), (uCo (r ++ rj) ro)]) fun v h => ∃ (cs : Int), v = (rsw q.vec (s1 2 d.length) (s1 3 r.length) q.fl true q.pg false q.root q.vec q.pc cs 0 q.su q.ie (IntKind.u64.wrap (q.cnt + 1)) q.ha true false (.slice none 0 0)) ∧ h = hq [(uCo (d ++ dj) ro), (uCo (r ++ rj) ro), (uCo d false), (uCo r false)] := by
 have hst : stOk d r q.fl = true := by simp [stOk]; omega
 rcases chk_no hno with hk | hk
 ·skip
  refine scall_sd 72 _ 2 kr f16_fn f16_body rfl rfl rfl fun X hX => ?_
  refine sd_run 11 (sdCp 13 41 #[(stq q q.pc (.slice (some ⟨0, 0, none⟩) d.length ka) (.slice (some ⟨1, 0, none⟩) r.length kb) q.fl q.cnt)] (@stright16_s q d dj r rj ka kb ro ) i2_ ⟨uC_b, uC_b, ⟨⟩⟩ ?_)
  rintro v9 k9 ⟨rfl, rfl⟩
  refine ⟨rfl, .bool (stOk d r q.fl), kr, ?_⟩
  refine sd_see 13 (.bool true) (see_bool kr hst) (sd_run 20 (sdCp 26 22 #[(stq q q.pc (.slice (some ⟨0, 0, none⟩) d.length ka) (.slice (some ⟨1, 0, none⟩) r.length kb) q.fl q.cnt), .agg #[.int .i64 op, .int .u32 n]] (@check_s q d dj r rj ka kb op n ro hp hri hdl hrl) i2_ ⟨uC_b, uC_b, ⟨⟩⟩ ?_))
  rintro v9 k9 ⟨rfl, rfl⟩
  refine ⟨rfl, .int .i64 (chkZ op d.length r.length), kr, ?_⟩
  refine sd_see 26 (.int .i64 3) (see_int (x := (chkZ op d.length r.length)) kr hk) (sd_run 7 (sdC 28 21 #[(stq q q.pc (.slice (some ⟨0, 0, none⟩) d.length ka) (.slice (some ⟨1, 0, none⟩) r.length kb) q.fl q.cnt)] (@copy16_s q d dj r rj ka kb ro (by omega) (by omega)) i2_ ⟨uC_b, uC_b, ⟨⟩⟩ ?_))
  rintro hn9 v9 k9 ⟨rfl, rfl⟩
  refine mkG (stq q q.pc (s1 5 d.length) (s1 6 r.length) q.fl q.cnt) [(uCo (d ++ dj) ro), (uCo (r ++ rj) ro), some ⟨(slq q q.pc (.slice (some ⟨0, 0, none⟩) d.length ka) (.slice (some ⟨1, 0, none⟩) r.length kb) q.fl q.cnt), 27, false⟩, some ⟨[Value.int .i64 op, .int .u32 n], 30, false⟩, some ⟨(rlw 0 (.slice none 0 0) (.slice none 0 0) 0 false false false 0 0 0 0 0 false false 0 false false false (.slice none 0 0)), 52, false⟩, (uCo d false), (uCo r false)] ⟨cvs 0 hn9, cvs 1 hn9, cvo, cvo, cvo, uC_c 2, uC_c 3, ⟨⟩⟩ ?_
  refine sd_run 28 (sdC 54 45 #[(stq q q.pc (.slice (some ⟨0, 0, none⟩) d.length ka) (.slice (some ⟨1, 0, none⟩) r.length kb) q.fl q.cnt), .int .i64 3, .int .u32 0] (@trap_s q d dj r rj ka kb 3 0 ro (by omega) (by omega)) i2_ ⟨uC_b, uC_b, ⟨⟩⟩ ?_)
  rintro hn9 v9 k9 ⟨rfl, rfl⟩
  refine mkG (stw q.vec (s1 8 d.length) (s1 9 r.length) q.fl true q.pg false q.root q.vec q.pc (IntKind.u32.wrap 3) 0 q.su q.ie q.cnt q.ha) [(uCo (d ++ dj) ro), (uCo (r ++ rj) ro), some ⟨(slq q q.pc (.slice (some ⟨0, 0, none⟩) d.length ka) (.slice (some ⟨1, 0, none⟩) r.length kb) q.fl q.cnt), 27, false⟩, some ⟨[Value.int .i64 op, .int .u32 n], 30, false⟩, some ⟨(rlw 0 (.slice none 0 0) (.slice none 0 0) 0 false false false 0 0 0 0 0 false false 0 false false false (.slice none 0 0)), 52, false⟩, (uCo d false), (uCo r false), some ⟨(rlq q q.pc (s1 5 d.length) (s1 6 r.length) q.fl q.cnt false false (.slice none 0 0)), 52, false⟩, (uCo d false), (uCo r false)] ⟨cvs 0 hn9, cvs 1 hn9, cvo, cvo, cvo, cvo, cvo, cvo, uC_c 2, uC_c 3, ⟨⟩⟩ ?_
  refine sd_run 37 ?_
  refine sdZ (rsw q.vec (s1 8 d.length) (s1 9 r.length) q.fl true q.pg false q.root q.vec q.pc (IntKind.u32.wrap 3) 0 q.su q.ie (IntKind.u64.wrap (q.cnt + 1)) q.ha true false (.slice none 0 0)) hX (rsw q.vec (s1 2 d.length) (s1 3 r.length) q.fl true q.pg false q.root q.vec q.pc 3 0 q.su q.ie (IntKind.u64.wrap (q.cnt + 1)) q.ha true false (.slice none 0 0)) [(uCo (d ++ dj) ro), (uCo (r ++ rj) ro), (uCo d false), (uCo r false)] [some 0, some 1, some 8, some 9] ⟨uC_b, uC_b, uC_b, uC_b, ⟨⟩⟩ ⟨3, rfl, rfl⟩
 ·skip
  refine scall_sd 72 _ 2 kr f16_fn f16_body rfl rfl rfl fun X hX => ?_
  refine sd_run 11 (sdCp 13 41 #[(stq q q.pc (.slice (some ⟨0, 0, none⟩) d.length ka) (.slice (some ⟨1, 0, none⟩) r.length kb) q.fl q.cnt)] (@stright16_s q d dj r rj ka kb ro ) i2_ ⟨uC_b, uC_b, ⟨⟩⟩ ?_)
  rintro v9 k9 ⟨rfl, rfl⟩
  refine ⟨rfl, .bool (stOk d r q.fl), kr, ?_⟩
  refine sd_see 13 (.bool true) (see_bool kr hst) (sd_run 20 (sdCp 26 22 #[(stq q q.pc (.slice (some ⟨0, 0, none⟩) d.length ka) (.slice (some ⟨1, 0, none⟩) r.length kb) q.fl q.cnt), .agg #[.int .i64 op, .int .u32 n]] (@check_s q d dj r rj ka kb op n ro hp hri hdl hrl) i2_ ⟨uC_b, uC_b, ⟨⟩⟩ ?_))
  rintro v9 k9 ⟨rfl, rfl⟩
  refine ⟨rfl, .int .i64 (chkZ op d.length r.length), kr, ?_⟩
  refine sd_see 26 (.int .i64 4) (see_int (x := (chkZ op d.length r.length)) kr hk) (sd_run 7 (sdC 28 21 #[(stq q q.pc (.slice (some ⟨0, 0, none⟩) d.length ka) (.slice (some ⟨1, 0, none⟩) r.length kb) q.fl q.cnt)] (@copy16_s q d dj r rj ka kb ro (by omega) (by omega)) i2_ ⟨uC_b, uC_b, ⟨⟩⟩ ?_))
  rintro hn9 v9 k9 ⟨rfl, rfl⟩
  refine mkG (stq q q.pc (s1 5 d.length) (s1 6 r.length) q.fl q.cnt) [(uCo (d ++ dj) ro), (uCo (r ++ rj) ro), some ⟨(slq q q.pc (.slice (some ⟨0, 0, none⟩) d.length ka) (.slice (some ⟨1, 0, none⟩) r.length kb) q.fl q.cnt), 27, false⟩, some ⟨[Value.int .i64 op, .int .u32 n], 30, false⟩, some ⟨(rlw 0 (.slice none 0 0) (.slice none 0 0) 0 false false false 0 0 0 0 0 false false 0 false false false (.slice none 0 0)), 52, false⟩, (uCo d false), (uCo r false)] ⟨cvs 0 hn9, cvs 1 hn9, cvo, cvo, cvo, uC_c 2, uC_c 3, ⟨⟩⟩ ?_
  refine sd_run 28 (sdC 54 45 #[(stq q q.pc (.slice (some ⟨0, 0, none⟩) d.length ka) (.slice (some ⟨1, 0, none⟩) r.length kb) q.fl q.cnt), .int .i64 4, .int .u32 0] (@trap_s q d dj r rj ka kb 4 0 ro (by omega) (by omega)) i2_ ⟨uC_b, uC_b, ⟨⟩⟩ ?_)
  rintro hn9 v9 k9 ⟨rfl, rfl⟩
  refine mkG (stw q.vec (s1 8 d.length) (s1 9 r.length) q.fl true q.pg false q.root q.vec q.pc (IntKind.u32.wrap 4) 0 q.su q.ie q.cnt q.ha) [(uCo (d ++ dj) ro), (uCo (r ++ rj) ro), some ⟨(slq q q.pc (.slice (some ⟨0, 0, none⟩) d.length ka) (.slice (some ⟨1, 0, none⟩) r.length kb) q.fl q.cnt), 27, false⟩, some ⟨[Value.int .i64 op, .int .u32 n], 30, false⟩, some ⟨(rlw 0 (.slice none 0 0) (.slice none 0 0) 0 false false false 0 0 0 0 0 false false 0 false false false (.slice none 0 0)), 52, false⟩, (uCo d false), (uCo r false), some ⟨(rlq q q.pc (s1 5 d.length) (s1 6 r.length) q.fl q.cnt false false (.slice none 0 0)), 52, false⟩, (uCo d false), (uCo r false)] ⟨cvs 0 hn9, cvs 1 hn9, cvo, cvo, cvo, cvo, cvo, cvo, uC_c 2, uC_c 3, ⟨⟩⟩ ?_
  refine sd_run 37 ?_
  refine sdZ (rsw q.vec (s1 8 d.length) (s1 9 r.length) q.fl true q.pg false q.root q.vec q.pc (IntKind.u32.wrap 4) 0 q.su q.ie (IntKind.u64.wrap (q.cnt + 1)) q.ha true false (.slice none 0 0)) hX (rsw q.vec (s1 2 d.length) (s1 3 r.length) q.fl true q.pg false q.root q.vec q.pc 4 0 q.su q.ie (IntKind.u64.wrap (q.cnt + 1)) q.ha true false (.slice none 0 0)) [(uCo (d ++ dj) ro), (uCo (r ++ rj) ro), (uCo d false), (uCo r false)] [some 0, some 1, some 8, some 9] ⟨uC_b, uC_b, uC_b, uC_b, ⟨⟩⟩ ⟨4, rfl, rfl⟩
end Ls
end Go.Proofs.Ytgpphhdndmdlgaa
