/- Chapter 21: instructions that are drawn. -/
import Derived.Test.YtegjicaoemhhlaaJc
set_option linter.unusedVariables false
set_option linter.unusedSimpArgs false
namespace Go.Proofs.Ytegjicaoemhhlaa
open Go Go.Ev Go.RowKit
set_option maxRecDepth 100000
namespace Ls
theorem u32_wrap_in (x : Int) : 0 ≤ IntKind.u32.wrap x ∧ IntKind.u32.wrap x < 4294967296 := by
 have : IntKind.u32.wrap x = x % 4294967296 := by rfl
 rw [this]; omega
def ops42 : List Int := [1, 1, 1, 2, 3, 4, 5, 6, 7, 8, 16, 17, 18, 19, 20, 21, 22, 23, 24, 25, 32, 33, 34, 35, 36, 37, 38, 39, 40, 48, 49, 50, 51, 52, 53, 64, 65, 66, 67, 68, 0, 69]
theorem ops42_ok : ∀ x ∈ ops42, sizeZ x ≠ 0 := by decide
theorem tmod_in {n : Int} (h : 0 ≤ n) : 0 ≤ Int.tmod n 42 ∧ Int.tmod n 42 < 42 := by rw [Int.tmod_eq_emod_of_nonneg h]; omega
theorem tmu2 {x : Int} (k : Int) (h : 0 ≤ x ∧ x < 4294967296) (hk : 0 < k) : 0 ≤ Int.tmod x k ∧ Int.tmod x k < k ∧ Int.tmod x k < 4294967296 := by
 rw [Int.tmod_eq_emod_of_nonneg h.1];have a := Int.emod_nonneg x (by omega : k ≠ 0);have b := Int.emod_lt_of_pos x hk
 have c : x % k ≤ x := by
  by_cases hxy : x < k
  ·rw [Int.emod_eq_of_lt h.1 hxy]; exact Int.le_refl _
  ·omega
 omega
noncomputable def f76b : Code := Try.f76.body.getD .skip
theorem op_s {n : Int} (hn : i64B n = true) : SCall Try.prog T16 76 #[jI n] (hq []) fun v h => ∃ (o1 : Int), sizeZ o1 ≠ 0 ∧ v = jI o1 ∧ h = hq [] := by
 simp only [i64B, Bool.and_eq_true, decide_eq_true_eq] at hn;obtain ⟨m9, hm9⟩ : ∃ m9 : Nat, Int.tmod (0 + n % (1073741824 - 0 + 1)) 42 = m9 := ⟨(Int.tmod (0 + n % (1073741824 - 0 + 1)) 42).toNat, by have := tmod_in (n := 0 + n % (1073741824 - 0 + 1)) (by omega); omega⟩;have hm8 := tmod_in (n := 0 + n % (1073741824 - 0 + 1)) (by omega);refine zS Try.f76 f76b 13 0 fun X hX => ?_
 refine sd_run 15 (sd_ask 7 (jI (0 + n % (1073741824 - 0 + 1))) 10 #[jI n, jI 0, jI 1073741824] kr kr kr (orc10 n 0 1073741824 (inB_of zo zo zo zo)) (sd_run 3 (sd_see 10 (jI (m9 : Int)) (see_int (x := (Int.tmod (0 + n % (1073741824 - 0 + 1)) 42)) kr hm9) (zX 0 11 (pT 0 (0 + m9 * 1)) m9 42 ?_))));obtain ⟨a1, ha1⟩ := zR ops42 m9 (by show m9 < 42; omega);refine zL 0 12 (jI a1) 3 0 0 3 false inC_len ha1 (sd_run 4 ?_);refine zY (jI a1) hX [] ⟨a1, (ops42_ok _ (List.mem_of_getElem? ha1)), rfl, rfl⟩
theorem nb2_0 (v : Int) (hv : 0 ≤ v ∧ v < 4294967296) : 0 ≤ Int.tmod v 256 ∧ Int.tmod v 256 ≤ 255 := by have := tmu2 256 hv (by omega); omega
theorem nb2_1 (v : Int) (hv : 0 ≤ v ∧ v < 4294967296) : 0 ≤ Int.tmod v 12 ∧ Int.tmod v 12 ≤ 255 := by have := tmu2 12 hv (by omega); omega
theorem nb2_2 (v : Int) (hv : 0 ≤ v ∧ v < 4294967296) : 0 ≤ Int.tmod (IntKind.u32.wrap (Int.tmod v 40 + 240)) 256 ∧ Int.tmod (IntKind.u32.wrap (Int.tmod v 40 + 240)) 256 ≤ 255 := by
 have h := u32_wrap_in (Int.tmod v 40 + 240);have := tmu2 256 h (by omega); omega
theorem lit4_in {v : Int} (hv : 0 ≤ v ∧ v < 4294967296) : ∀ x ∈ [v, (Int.tmod v 256), (IntKind.u32.wrap (32768 + Int.tmod v 64)), (Int.tmod v 4096)], 0 ≤ x ∧ x < 4294967296 := fun x hx => by
 simp only [List.mem_cons, List.not_mem_nil, or_false] at hx;rcases hx with rfl | rfl | rfl | rfl
 ·exact hv
 ·have := tmu2 256 hv (by omega); omega
 ·exact u32_wrap_in _
 ·have := tmu2 4096 hv (by omega); omega
noncomputable def f57b : Code := Try.f57.body.getD .skip
theorem instr_s {n v : Int} (hn : i64B n = true) (hv : 0 ≤ v ∧ v < 4294967296) : SCall Try.prog T16 57 #[jI n, jU v] (hq []) fun v h => ∃ (o1 n1 : Int), rightI o1 n1 = true ∧ (0 ≤ n1 ∧ n1 < 4294967296) ∧ v = .agg #[jI o1, jU n1] ∧ h = hq [] := by
 refine zS Try.f57 f57b 58 0 fun X hX => ?_
 refine sd_run 8 (zG 7 76 #[jI n] (@op_s n hn) [] ?_);rintro v9 k9 ⟨o10_, q1_0, rfl, rfl⟩;refine ⟨rfl, jI o10_, kr, ?_⟩;refine sd_run 10 (sd_ask 11 (jI (sizeZ o10_)) 77 #[jI o10_] kr kr kr rfl ?_);rcases sizeZ_in o10_ with hz | hz | hz | hz
 ·exact absurd hz q1_0
 ·refine sd_see 11 (jI 1) (see_int kr hz) (sd_run 27 ?_);refine zY (.agg #[jI o10_, jU 0]) hX [] ⟨o10_, 0, (by unfold rightI; rw [hz]; decide), (by decide), rfl, rfl⟩
 ·refine sd_see 11 (jI 2) (see_int kr hz) (sd_run 25 ?_);refine zB 0 20 ((o10_ : Int) == 66) (fun hc2 => ?_) fun hc2 => ?_
  ·refine zB 20 31 (decide ((o10_ : Int) ≥ 32)) (fun hc3 => ?_) fun hc3 => ?_
   ·refine zB 6 35 (decide ((o10_ : Int) ≤ 38)) (fun hc4 => ?_) fun hc4 => ?_
    ·refine sd_run 18 ?_;refine zY (.agg #[jI o10_, jU (Int.tmod (IntKind.u32.wrap ((Int.tmod v 40) + 240)) 256)]) hX [] ⟨o10_, (Int.tmod (IntKind.u32.wrap ((Int.tmod v 40) + 240)) 256), (by unfold rightI; rw [hz]; simp; exact (nb2_2 v hv).2), (by have := nb2_2 v hv; omega), rfl, rfl⟩
    ·refine sd_run 11 ?_;refine zY (.agg #[jI o10_, jU (Int.tmod v 12)]) hX [] ⟨o10_, (Int.tmod v 12), (by unfold rightI; rw [hz]; simp; exact (nb2_1 v hv).2), (by have := nb2_1 v hv; omega), rfl, rfl⟩
   ·refine sd_run 17 ?_;refine zY (.agg #[jI o10_, jU (Int.tmod v 12)]) hX [] ⟨o10_, (Int.tmod v 12), (by unfold rightI; rw [hz]; simp; exact (nb2_1 v hv).2), (by have := nb2_1 v hv; omega), rfl, rfl⟩
  ·refine zB 6 24 ((o10_ : Int) == 67) (fun hc5 => ?_) fun hc5 => ?_
   ·refine zB 14 31 (decide ((o10_ : Int) ≥ 32)) (fun hc6 => ?_) fun hc6 => ?_
    ·refine zB 6 35 (decide ((o10_ : Int) ≤ 38)) (fun hc7 => ?_) fun hc7 => ?_
     ·refine sd_run 18 ?_;refine zY (.agg #[jI o10_, jU (Int.tmod (IntKind.u32.wrap ((Int.tmod v 40) + 240)) 256)]) hX [] ⟨o10_, (Int.tmod (IntKind.u32.wrap ((Int.tmod v 40) + 240)) 256), (by unfold rightI; rw [hz]; simp; exact (nb2_2 v hv).2), (by have := nb2_2 v hv; omega), rfl, rfl⟩
     ·refine sd_run 11 ?_;refine zY (.agg #[jI o10_, jU (Int.tmod v 12)]) hX [] ⟨o10_, (Int.tmod v 12), (by unfold rightI; rw [hz]; simp; exact (nb2_1 v hv).2), (by have := nb2_1 v hv; omega), rfl, rfl⟩
    ·refine sd_run 17 ?_;refine zY (.agg #[jI o10_, jU (Int.tmod v 12)]) hX [] ⟨o10_, (Int.tmod v 12), (by unfold rightI; rw [hz]; simp; exact (nb2_1 v hv).2), (by have := nb2_1 v hv; omega), rfl, rfl⟩
   ·refine zB 9 31 (decide ((o10_ : Int) ≥ 32)) (fun hc8 => ?_) fun hc8 => ?_
    ·refine zB 6 35 (decide ((o10_ : Int) ≤ 38)) (fun hc9 => ?_) fun hc9 => ?_
     ·refine sd_run 18 ?_;refine zY (.agg #[jI o10_, jU (Int.tmod (IntKind.u32.wrap ((Int.tmod v 40) + 240)) 256)]) hX [] ⟨o10_, (Int.tmod (IntKind.u32.wrap ((Int.tmod v 40) + 240)) 256), (by unfold rightI; rw [hz]; simp; exact (nb2_2 v hv).2), (by have := nb2_2 v hv; omega), rfl, rfl⟩
     ·refine sd_run 11 ?_;refine zY (.agg #[jI o10_, jU (Int.tmod v 256)]) hX [] ⟨o10_, (Int.tmod v 256), (by unfold rightI; rw [hz]; simp; exact (nb2_0 v hv).2), (by have := nb2_0 v hv; omega), rfl, rfl⟩
    ·refine sd_run 17 ?_;refine zY (.agg #[jI o10_, jU (Int.tmod v 256)]) hX [] ⟨o10_, (Int.tmod v 256), (by unfold rightI; rw [hz]; simp; exact (nb2_0 v hv).2), (by have := nb2_0 v hv; omega), rfl, rfl⟩
 ·refine sd_see 11 (jI 5) (see_int kr hz) ?_;obtain ⟨m9, hm9⟩ : ∃ m9 : Nat, Int.tmod v 4 = m9 := ⟨(Int.tmod v 4).toNat, by have := tmu2 (x := v) 4 hv (by omega); omega⟩;have hm8 := tmu2 (x := v) 4 hv (by omega);refine sd_run 29 (sd_see 53 (jU (m9 : Int)) (see_int (x := (Int.tmod v 4)) kr hm9) (zX 0 54 (pT 2 (0 + m9 * 1)) m9 4 ?_));obtain ⟨a10, ha10⟩ := zR ([v, (Int.tmod v 256), (IntKind.u32.wrap (32768 + (Int.tmod v 64))), (Int.tmod v 4096)]) m9 (by show m9 < 4; omega);refine zL 0 55 (jU a10) 27 2 0 27 false uC_len ha10 (sd_run 12 ?_);refine zY (.agg #[jI o10_, jU a10]) hX [] ⟨o10_, a10, (by unfold rightI; rw [hz]; simp), (lit4_in hv _ (List.mem_of_getElem? ha10)), rfl, rfl⟩
noncomputable def f38b : Code := Try.f38.body.getD .skip
theorem plainK_s {n v : Int} {en : Bool} (hn : i64B n = true) (hv : 0 ≤ v ∧ v < 4294967296) : SCall Try.prog T16 38 #[jI n, jU v, .bool en] (hq []) fun v h => ∃ (o1 n1 : Int), rightI o1 n1 = true ∧ (0 ≤ n1 ∧ n1 < 4294967296) ∧ plainB o1 = true ∧ (en = false → endsB o1 = false) ∧ v = .agg #[jI o1, jU n1] ∧ h = hq [] := by
 simp only [i64B, Bool.and_eq_true, decide_eq_true_eq] at hn;refine zS Try.f38 f38b 31 0 fun X hX => ?_
 refine sd_run 12 ?_;refine sd_loop 31 (cl (cl (cr (cl (cr f38b))))) [.blk 0, .next (cr (cr f38b))] kr kr kr (fun m9 s9 => ∃ (k : Nat), m9 = 50 - k ∧ (k ≤ 50) ∧ s9 = ⟨tmL [(0, jI n), (1, jU v), (2, .bool en), (6, pT 0 0), (7, jI (k : Int))], hq [oB 82 [jI 0, jU 0]]⟩) (50 - 0) _ e1_ hX ⟨0, rfl, zo, rfl⟩ ⟨zs, zt⟩ kr ?_;rintro m9 s9 ⟨k, rfl, i1_0, rfl⟩ R1_ hR1_
 by_cases hlt : k < 50
 ·refine zT 5 10 ((k : Int) < 50) (sd_run 10 (sd_ask 14 (jI (0 + n % (1073741824 - 0 + 1))) 10 #[jI n, jI 0, jI 1073741824] kr kr kr (orc10 n 0 1073741824 (inB_of zo zo zo zo)) (zI 2 16 .i64 ((0 + n % (1073741824 - 0 + 1)) + (k : Int)) (IntKind.i64.wrap ((0 + n % (1073741824 - 0 + 1)) + (k : Int))) (sd_run 1 (zG 18 57 #[jI ((0 + n % (1073741824 - 0 + 1)) + (k : Int)), jU v] (@instr_s ((0 + n % (1073741824 - 0 + 1)) + (k : Int)) v (by simp [i64B]; omega) hv) [] ?_)))));rintro v9 k9 ⟨o10_, n10_, q1_0, q1_1, rfl, rfl⟩;refine ⟨rfl, .agg #[jI o10_, jU n10_], kr, ?_⟩;refine sd_run 8 (sd_ask 21 (.bool (plainB o10_)) 58 #[jI o10_] kr kr kr rfl (sd_run 1 ?_));refine zB 0 22 (plainB o10_) (fun hc2 => ?_) fun hc2 => ?_
  ·refine sd_run 2 (sd_ask 25 (.bool (endsB o10_)) 59 #[jI o10_] kr kr kr rfl (sd_run 5 ?_));refine zB 0 28 ((endsB o10_) == en) (fun hc3 => ?_) fun hc3 => ?_
   ·refine sd_run 13 ?_;refine zY (.agg #[jI o10_, jU n10_]) hX [] ⟨o10_, n10_, q1_0, q1_1, hc2, (fun h => by subst h; simpa using hc3), rfl, rfl⟩
   ·refine zI 7 12 .i64 ((k + 1 : Nat) : Int) (IntKind.i64.wrap ((k : Int) + 1)) (sd_run 2 ?_);refine sd_inv R1_ kr (hR1_ _ (50 - (k + 1)) _ e1_ zo ⟨k + 1, rfl, zo, rfl⟩ ⟨zs, zt⟩ kr)
  ·refine zI 15 12 .i64 ((k + 1 : Nat) : Int) (IntKind.i64.wrap ((k : Int) + 1)) (sd_run 2 ?_);refine sd_inv R1_ kr (hR1_ _ (50 - (k + 1)) _ e1_ zo ⟨k + 1, rfl, zo, rfl⟩ ⟨zs, zt⟩ kr)
 ·obtain rfl : k = 50 := by omega
  refine zF 5 10 (((50 : Nat) : Int) < 50) (sd_run 15 ?_);refine zY (.agg #[jI 0, jU 0]) hX [] ⟨0, 0, (by decide), (by decide), (by decide), (fun _ => by decide), rfl, rfl⟩
end Ls
end Go.Proofs.Ytegjicaoemhhlaa
