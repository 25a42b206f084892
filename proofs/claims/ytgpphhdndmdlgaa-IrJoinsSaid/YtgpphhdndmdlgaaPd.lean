/- Chapter 19: instructions that are drawn. -/
import Derived.Test.YtgpphhdndmdlgaaPc
namespace Go.Proofs.Ytgpphhdndmdlgaa
open Go Go.Ev Go.RowKit
set_option linter.unusedVariables false
set_option linter.unusedSimpArgs false
set_option maxRecDepth 100000
namespace Ls
def ops42 : List Int := [1, 1, 1, 2, 3, 4, 5, 6, 7, 8, 16, 17, 18, 19, 20, 21, 22, 23, 24, 25, 32, 33, 34, 35, 36, 37, 38, 39, 40, 48, 49, 50, 51, 52, 53, 64, 65, 66, 67, 68, 0, 69]
theorem ops42_ok : ∀ x ∈ ops42, sizeZ x ≠ 0 := by decide
theorem tmod_in {n : Int} (h : 0 ≤ n) : 0 ≤ Int.tmod n 42 ∧ Int.tmod n 42 < 42 := by rw [Int.tmod_eq_emod_of_nonneg h]; omega
theorem tmu2 {x : Int} (k : Int) (h : 0 ≤ x ∧ x < 4294967296) (hk : 0 < k) : 0 ≤ Int.tmod x k ∧ Int.tmod x k < k ∧ Int.tmod x k < 4294967296 := by
 rw [Int.tmod_eq_emod_of_nonneg h.1]
 have a := Int.emod_nonneg x (by omega : k ≠ 0)
 have b := Int.emod_lt_of_pos x hk
 have c : x % k ≤ x := by
  by_cases hxy : x < k
  ·rw [Int.emod_eq_of_lt h.1 hxy]; exact Int.le_refl _
  ·omega
 omega
noncomputable def f47b : Code := Try.f47.body.getD .skip
theorem f47_body : Try.f47.body = some f47b := by kernel_rfl
theorem f47_fn : T20.fn 47 = some Try.f47 := by kernel_rfl
theorem op_s {n : Int} (hn : i64B n = true) : SCall Try.prog T20 47 #[.int .i64 n] (hq []) fun v h => ∃ (o1 : Int), sizeZ o1 ≠ 0 ∧ v = .int .i64 o1 ∧ h = hq [] := by
 simp only [i64B, Bool.and_eq_true, decide_eq_true_eq] at hn
 obtain ⟨m9, hm9⟩ : ∃ m9 : Nat, Int.tmod (0 + n % (1073741824 - 0 + 1)) 42 = m9 := ⟨(Int.tmod (0 + n % (1073741824 - 0 + 1)) 42).toNat, by have := tmod_in (n := 0 + n % (1073741824 - 0 + 1)) (by omega); omega⟩
 have hm8 := tmod_in (n := 0 + n % (1073741824 - 0 + 1)) (by omega)
 refine scall_sd 13 _ 0 kr f47_fn f47_body rfl rfl rfl fun X hX => ?_
 refine sd_run 15 (sd_ask 7 (.int .i64 (0 + n % (1073741824 - 0 + 1))) 18 #[.int .i64 n, .int .i64 0, .int .i64 1073741824] kr kr kr (orc18 n 0 1073741824 (inB_of (by omega) (by omega) (by omega) (by omega))) (sd_run 3 (sd_see 10 (.int .i64 (m9 : Int)) (see_int (x := (Int.tmod (0 + n % (1073741824 - 0 + 1)) 42)) kr hm9) (sd_ix 11 (.pointer (some ⟨0, 0 + m9 * 1, none⟩)) m9 42 kr kr kr (by omega) ?_))))
 obtain ⟨a1, ha1⟩ : ∃ x_, (ops42)[m9]? = some x_ := ⟨_, List.getElem?_eq_getElem (by show m9 < 42; omega)⟩
 refine sd_ld 12 (.int .i64 a1) 3 (.pointer (some ⟨0, 0 + m9 * 1, none⟩)) kr kr kr (ld_cell (l := ops42) (e := 3) (ro := false) (k := m9) (j := 0) inC_len kr kr kr ha1 rfl) (sd_run 4 ?_)
 refine sdY (.int .i64 a1) hX [] [] True.intro ⟨a1, (ops42_ok _ (List.mem_of_getElem? ha1)), rfl, rfl⟩
theorem nb2_0 (v : Int) (hv : 0 ≤ v ∧ v < 4294967296) : 0 ≤ Int.tmod v 256 ∧ Int.tmod v 256 ≤ 255 := by have := tmu2 256 hv (by omega); omega
theorem nb2_1 (v : Int) (hv : 0 ≤ v ∧ v < 4294967296) : 0 ≤ Int.tmod v 12 ∧ Int.tmod v 12 ≤ 255 := by have := tmu2 12 hv (by omega); omega
theorem nb2_2 (v : Int) (hv : 0 ≤ v ∧ v < 4294967296) : 0 ≤ Int.tmod (IntKind.u32.wrap (Int.tmod v 40 + 240)) 256 ∧ Int.tmod (IntKind.u32.wrap (Int.tmod v 40 + 240)) 256 ≤ 255 := by
 have h := u32_wrap_in (Int.tmod v 40 + 240)
 have := tmu2 256 h (by omega); omega
theorem lit4_in {v : Int} (hv : 0 ≤ v ∧ v < 4294967296) : ∀ x ∈ [v, (Int.tmod v 256), (IntKind.u32.wrap (32768 + Int.tmod v 64)), (Int.tmod v 4096)], 0 ≤ x ∧ x < 4294967296 := fun x hx => by
 simp only [List.mem_cons, List.not_mem_nil, or_false] at hx
 rcases hx with rfl | rfl | rfl | rfl
 ·exact hv
 ·have := tmu2 256 hv (by omega); omega
 ·exact u32_wrap_in _
 ·have := tmu2 4096 hv (by omega); omega
noncomputable def f17b : Code := Try.f17.body.getD .skip
theorem f17_body : Try.f17.body = some f17b := by kernel_rfl
theorem f17_fn : T20.fn 17 = some Try.f17 := by kernel_rfl
theorem instr_s {n v : Int} (hn : i64B n = true) (hv : 0 ≤ v ∧ v < 4294967296) : SCall Try.prog T20 17 #[.int .i64 n, .int .u32 v] (hq []) fun v h => ∃ (o1 n1 : Int), rightI o1 n1 = true ∧ (0 ≤ n1 ∧ n1 < 4294967296) ∧ v = .agg #[.int .i64 o1, .int .u32 n1] ∧ h = hq [] := by
 refine scall_sd 58 _ 0 kr f17_fn f17_body rfl rfl rfl fun X hX => ?_
 refine sd_run 8 (sdCp 7 47 #[.int .i64 n] (@op_s n hn) [] True.intro ?_)
 rintro v9 k9 ⟨o10_, q1_0, rfl, rfl⟩
 refine ⟨rfl, .int .i64 o10_, kr, ?_⟩
 refine sd_run 10 (sd_ask 11 (.int .i64 (sizeZ o10_)) 43 #[.int .i64 o10_] kr kr kr rfl ?_)
 rcases sizeZ_in o10_ with hz | hz | hz | hz
 ·skip
  exact absurd hz q1_0
 ·skip
  refine sd_see 11 (.int .i64 1) (see_int kr hz) (sd_run 27 ?_)
  refine sdY (.agg #[.int .i64 o10_, .int .u32 0]) hX [] [] True.intro ⟨o10_, 0, (by unfold rightI; rw [hz]; decide), (by decide), rfl, rfl⟩
 ·skip
  refine sd_see 11 (.int .i64 2) (see_int kr hz) (sd_run 25 ?_)
  rcases Bool.eq_false_or_eq_true ((o10_ : Int) == 66) with hc2 | hc2
  ·skip
   refine sd_see 20 (.bool true) (see_bool kr hc2) (sd_run 20 ?_)
   rcases Bool.eq_false_or_eq_true (decide ((o10_ : Int) ≥ 32)) with hc3 | hc3
   ·skip
    refine sd_see 31 (.bool true) (see_bool kr hc3) (sd_run 6 ?_)
    rcases Bool.eq_false_or_eq_true (decide ((o10_ : Int) ≤ 38)) with hc4 | hc4
    ·skip
     refine sd_see 35 (.bool true) (see_bool kr hc4) (sd_run 18 ?_)
     refine sdY (.agg #[.int .i64 o10_, .int .u32 (Int.tmod (IntKind.u32.wrap ((Int.tmod v 40) + 240)) 256)]) hX [] [] True.intro ⟨o10_, (Int.tmod (IntKind.u32.wrap ((Int.tmod v 40) + 240)) 256), (by unfold rightI; rw [hz]; simp; exact (nb2_2 v hv).2), (by have := nb2_2 v hv; omega), rfl, rfl⟩
    ·skip
     refine sd_see 35 (.bool false) (see_bool kr hc4) (sd_run 11 ?_)
     refine sdY (.agg #[.int .i64 o10_, .int .u32 (Int.tmod v 12)]) hX [] [] True.intro ⟨o10_, (Int.tmod v 12), (by unfold rightI; rw [hz]; simp; exact (nb2_1 v hv).2), (by have := nb2_1 v hv; omega), rfl, rfl⟩
   ·skip
    refine sd_see 31 (.bool false) (see_bool kr hc3) (sd_run 17 ?_)
    refine sdY (.agg #[.int .i64 o10_, .int .u32 (Int.tmod v 12)]) hX [] [] True.intro ⟨o10_, (Int.tmod v 12), (by unfold rightI; rw [hz]; simp; exact (nb2_1 v hv).2), (by have := nb2_1 v hv; omega), rfl, rfl⟩
  ·skip
   refine sd_see 20 (.bool false) (see_bool kr hc2) (sd_run 6 ?_)
   rcases Bool.eq_false_or_eq_true ((o10_ : Int) == 67) with hc5 | hc5
   ·skip
    refine sd_see 24 (.bool true) (see_bool kr hc5) (sd_run 14 ?_)
    rcases Bool.eq_false_or_eq_true (decide ((o10_ : Int) ≥ 32)) with hc6 | hc6
    ·skip
     refine sd_see 31 (.bool true) (see_bool kr hc6) (sd_run 6 ?_)
     rcases Bool.eq_false_or_eq_true (decide ((o10_ : Int) ≤ 38)) with hc7 | hc7
     ·skip
      refine sd_see 35 (.bool true) (see_bool kr hc7) (sd_run 18 ?_)
      refine sdY (.agg #[.int .i64 o10_, .int .u32 (Int.tmod (IntKind.u32.wrap ((Int.tmod v 40) + 240)) 256)]) hX [] [] True.intro ⟨o10_, (Int.tmod (IntKind.u32.wrap ((Int.tmod v 40) + 240)) 256), (by unfold rightI; rw [hz]; simp; exact (nb2_2 v hv).2), (by have := nb2_2 v hv; omega), rfl, rfl⟩
     ·skip
      refine sd_see 35 (.bool false) (see_bool kr hc7) (sd_run 11 ?_)
      refine sdY (.agg #[.int .i64 o10_, .int .u32 (Int.tmod v 12)]) hX [] [] True.intro ⟨o10_, (Int.tmod v 12), (by unfold rightI; rw [hz]; simp; exact (nb2_1 v hv).2), (by have := nb2_1 v hv; omega), rfl, rfl⟩
    ·skip
     refine sd_see 31 (.bool false) (see_bool kr hc6) (sd_run 17 ?_)
     refine sdY (.agg #[.int .i64 o10_, .int .u32 (Int.tmod v 12)]) hX [] [] True.intro ⟨o10_, (Int.tmod v 12), (by unfold rightI; rw [hz]; simp; exact (nb2_1 v hv).2), (by have := nb2_1 v hv; omega), rfl, rfl⟩
   ·skip
    refine sd_see 24 (.bool false) (see_bool kr hc5) (sd_run 9 ?_)
    rcases Bool.eq_false_or_eq_true (decide ((o10_ : Int) ≥ 32)) with hc8 | hc8
    ·skip
     refine sd_see 31 (.bool true) (see_bool kr hc8) (sd_run 6 ?_)
     rcases Bool.eq_false_or_eq_true (decide ((o10_ : Int) ≤ 38)) with hc9 | hc9
     ·skip
      refine sd_see 35 (.bool true) (see_bool kr hc9) (sd_run 18 ?_)
      refine sdY (.agg #[.int .i64 o10_, .int .u32 (Int.tmod (IntKind.u32.wrap ((Int.tmod v 40) + 240)) 256)]) hX [] [] True.intro ⟨o10_, (Int.tmod (IntKind.u32.wrap ((Int.tmod v 40) + 240)) 256), (by unfold rightI; rw [hz]; simp; exact (nb2_2 v hv).2), (by have := nb2_2 v hv; omega), rfl, rfl⟩
     ·skip
      refine sd_see 35 (.bool false) (see_bool kr hc9) (sd_run 11 ?_)
      refine sdY (.agg #[.int .i64 o10_, .int .u32 (Int.tmod v 256)]) hX [] [] True.intro ⟨o10_, (Int.tmod v 256), (by unfold rightI; rw [hz]; simp; exact (nb2_0 v hv).2), (by have := nb2_0 v hv; omega), rfl, rfl⟩
    ·skip
     refine sd_see 31 (.bool false) (see_bool kr hc8) (sd_run 17 ?_)
     refine sdY (.agg #[.int .i64 o10_, .int .u32 (Int.tmod v 256)]) hX [] [] True.intro ⟨o10_, (Int.tmod v 256), (by unfold rightI; rw [hz]; simp; exact (nb2_0 v hv).2), (by have := nb2_0 v hv; omega), rfl, rfl⟩
 ·skip
  refine sd_see 11 (.int .i64 5) (see_int kr hz) ?_
  obtain ⟨m9, hm9⟩ : ∃ m9 : Nat, Int.tmod v 4 = m9 := ⟨(Int.tmod v 4).toNat, by have := tmu2 (x := v) 4 hv (by omega); omega⟩
  have hm8 := tmu2 (x := v) 4 hv (by omega)
  refine sd_run 29 (sd_see 53 (.int .u32 (m9 : Int)) (see_int (x := (Int.tmod v 4)) kr hm9) (sd_ix 54 (.pointer (some ⟨2, 0 + m9 * 1, none⟩)) m9 4 kr kr kr (by omega) ?_))
  obtain ⟨a10, ha10⟩ : ∃ x_, ([v, (Int.tmod v 256), (IntKind.u32.wrap (32768 + (Int.tmod v 64))), (Int.tmod v 4096)])[m9]? = some x_ := ⟨_, List.getElem?_eq_getElem (by show m9 < 4; omega)⟩
  refine sd_ld 55 (.int .u32 a10) 22 (.pointer (some ⟨2, 0 + m9 * 1, none⟩)) kr kr kr (ld_cell (l := [v, (Int.tmod v 256), (IntKind.u32.wrap (32768 + (Int.tmod v 64))), (Int.tmod v 4096)]) (e := 22) (ro := false) (k := m9) (j := 0) uC_len kr kr kr ha10 rfl) (sd_run 12 ?_)
  refine sdY (.agg #[.int .i64 o10_, .int .u32 a10]) hX [] [] True.intro ⟨o10_, a10, (by unfold rightI; rw [hz]; simp), (lit4_in hv _ (List.mem_of_getElem? ha10)), rfl, rfl⟩
noncomputable def f7b : Code := Try.f7.body.getD .skip
theorem f7_body : Try.f7.body = some f7b := by kernel_rfl
theorem f7_fn : T20.fn 7 = some Try.f7 := by kernel_rfl
theorem plainK_s {n v : Int} {en : Bool} (hn : i64B n = true) (hv : 0 ≤ v ∧ v < 4294967296) : SCall Try.prog T20 7 #[.int .i64 n, .int .u32 v, .bool en] (hq []) fun v h => ∃ (o1 n1 : Int), rightI o1 n1 = true ∧ (0 ≤ n1 ∧ n1 < 4294967296) ∧ plainB o1 = true ∧ (en = false → endsB o1 = false) ∧ v = .agg #[.int .i64 o1, .int .u32 n1] ∧ h = hq [] := by
 simp only [i64B, Bool.and_eq_true, decide_eq_true_eq] at hn
 refine scall_sd 31 _ 0 kr f7_fn f7_body rfl rfl rfl fun X hX => ?_
 refine sd_run 12 (sd_loop 31 (cl (cl (cr (cl (cr f7b))))) [.blk 0, .next (cr (cr f7b))] kr kr kr (fun m9 s9 => ∃ (k : Nat), m9 = 50 - k ∧ (k ≤ 50) ∧ s9 = ⟨tmL [(0, .int .i64 n), (1, .int .u32 v), (2, .bool en), (6, .pointer (some ⟨0, 0, none⟩)), (7, .int .i64 (k : Int))], hq [some ⟨[Value.int .i64 0, .int .u32 0], 30, false⟩]⟩) (50 - 0) _ e1_ hX ⟨0, rfl, (by omega), rfl⟩ ⟨sub_of kr kr ⟨brn, ⟨⟩⟩, te_of kr kr⟩ kr ?_)
 rintro m9 s9 ⟨k, rfl, i1_0, rfl⟩ R1_ hR1_
 by_cases hlt : k < 50
 ·skip
  refine sd_run 5 (sdT 10 ((k : Int) < 50) (by omega) kr (sd_run 10 (sd_ask 14 (.int .i64 (0 + n % (1073741824 - 0 + 1))) 18 #[.int .i64 n, .int .i64 0, .int .i64 1073741824] kr kr kr (orc18 n 0 1073741824 (inB_of (by omega) (by omega) (by omega) (by omega))) (sd_run 2 (sd_see 16 (.int .i64 ((0 + n % (1073741824 - 0 + 1)) + (k : Int))) (see_int (x := (IntKind.i64.wrap ((0 + n % (1073741824 - 0 + 1)) + (k : Int)))) kr (w64 (by omega) (by omega) (by omega))) (sd_run 1 (sdCp 18 17 #[.int .i64 ((0 + n % (1073741824 - 0 + 1)) + (k : Int)), .int .u32 v] (@instr_s ((0 + n % (1073741824 - 0 + 1)) + (k : Int)) v (by simp [i64B]; omega) hv) [] True.intro ?_)))))))
  rintro v9 k9 ⟨o10_, n10_, q1_0, q1_1, rfl, rfl⟩
  refine ⟨rfl, .agg #[.int .i64 o10_, .int .u32 n10_], kr, ?_⟩
  refine sd_run 8 (sd_ask 21 (.bool (plainB o10_)) 19 #[.int .i64 o10_] kr kr kr rfl (sd_run 1 ?_))
  rcases Bool.eq_false_or_eq_true (plainB o10_) with hc2 | hc2
  ·skip
   refine sd_see 22 (.bool true) (see_bool kr hc2) (sd_run 2 (sd_ask 25 (.bool (endsB o10_)) 20 #[.int .i64 o10_] kr kr kr rfl (sd_run 5 ?_)))
   rcases Bool.eq_false_or_eq_true ((endsB o10_) == en) with hc3 | hc3
   ·skip
    refine sd_see 28 (.bool true) (see_bool kr hc3) (sd_run 13 ?_)
    refine sdY (.agg #[.int .i64 o10_, .int .u32 n10_]) hX [] [] True.intro ⟨o10_, n10_, q1_0, q1_1, hc2, (fun h => by subst h; simpa using hc3), rfl, rfl⟩
   ·skip
    refine sd_see 28 (.bool false) (see_bool kr hc3) (sd_run 7 (sd_see 12 (.int .i64 ((k + 1 : Nat) : Int)) (see_int (x := (IntKind.i64.wrap ((k : Int) + 1))) kr (w64 (by omega) (by omega) (by omega))) (sd_run 2 ?_)))
    refine sd_inv R1_ kr (hR1_ _ (50 - (k + 1)) _ e1_ (by omega) ⟨k + 1, rfl, (by omega), rfl⟩ ⟨sub_of kr kr ⟨brn, ⟨⟩⟩, te_of kr kr⟩ kr)
  ·skip
   refine sd_see 22 (.bool false) (see_bool kr hc2) (sd_run 15 (sd_see 12 (.int .i64 ((k + 1 : Nat) : Int)) (see_int (x := (IntKind.i64.wrap ((k : Int) + 1))) kr (w64 (by omega) (by omega) (by omega))) (sd_run 2 ?_)))
   refine sd_inv R1_ kr (hR1_ _ (50 - (k + 1)) _ e1_ (by omega) ⟨k + 1, rfl, (by omega), rfl⟩ ⟨sub_of kr kr ⟨brn, ⟨⟩⟩, te_of kr kr⟩ kr)
 ·skip
  obtain rfl : k = 50 := by omega
  refine sd_run 5 (sdF 10 (((50 : Nat) : Int) < 50) (by omega) kr (sd_run 15 ?_))
  refine sdY (.agg #[.int .i64 0, .int .u32 0]) hX [] [] True.intro ⟨0, 0, (by decide), (by decide), (by decide), (fun _ => by decide), rfl, rfl⟩
end Ls
end Go.Proofs.Ytgpphhdndmdlgaa
