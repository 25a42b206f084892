/- Chapter 22: what an operation makes of two registers. -/
import Derived.Test.YtihacfclecanjaaRa
import Derived.Test.YtihacfclecanjaaQd
import Derived.Test.YtihacfclecanjaaNf
set_option linter.unusedVariables false
set_option linter.unusedSimpArgs false
namespace Go.Proofs.Ytihacfclecanjaa
open Go Go.Ev Go.RowKit
set_option maxRecDepth 100000
namespace Ls
theorem ab_shl {T : Tab} {t : TypeId} {k k' : IntKind} {a b : Int} (hb : decide (b < 0) = false) : abin T .shl t (.int k a) (.int k' b) = some (.int k (k.wrap (a * 2 ^ min b.toNat k.bits))) := by
 simp only [abin, isShift, cond_true, ishift, hb, cond_false]
theorem ab_shr {T : Tab} {t : TypeId} {k k' : IntKind} {a b : Int} (hb : decide (b < 0) = false) : abin T .shr t (.int k a) (.int k' b) = some (.int k (a.fdiv (2 ^ min b.toNat k.bits))) := by
 simp only [abin, isShift, cond_true, ishift, hb, cond_false]
theorem ab_quo {T : Tab} {t : TypeId} {k : IntKind} {a b : Int} (hb : (b == 0) = false) : abin T .quo t (.int k a) (.int k b) = some (.int k (k.wrap (a.tdiv b))) := by
 simp only [abin, isShift, cond_false, BEq.rfl, cond_true, ibin, hb]
def U64 (G : List Int) : Prop := ∀ i, 0 ≤ G.getD i 0 ∧ G.getD i 0 < 18446744073709551616
theorem U64.set {G : List Int} (h : U64 G) (i : Nat) {v : Int} (hv : 0 ≤ v ∧ v < 18446744073709551616) : U64 (G.set i v) := fun j => by
 rw [getD_set]; split
 ·exact hv
 ·exact h j
theorem w64m (x : Int) : IntKind.u64.wrap x = x % 18446744073709551616 := by
 simp only [IntKind.wrap];simp [IntKind.bits, IntKind.signed]
theorem w64_u {x : Int} (h : 0 ≤ x ∧ x < 18446744073709551616) : IntKind.u64.wrap x = x := by rw [w64m]; omega
theorem xor_u64 (a b : Nat) (ha : a < 18446744073709551616) (hb : b < 18446744073709551616) : bits .xor .u64 a b = ((a ^^^ b : Nat) : Int) := by
 have hx : a ^^^ b < 2 ^ 64 := Nat.xor_lt_two_pow (by omega) (by omega)
 have h1 : (BitVec.ofInt 64 (a : Int)).toNat = a := by
  rw [BitVec.toNat_ofInt]; omega
 have h2 : (BitVec.ofInt 64 (b : Int)).toNat = b := by
  rw [BitVec.toNat_ofInt]; omega
 show IntKind.u64.wrap (((BitVec.ofInt 64 (a : Int)) ^^^ (BitVec.ofInt 64 (b : Int))).toNat : Int) = _;rw [BitVec.toNat_xor, h1, h2, w64m]; omega
theorem h_and {a b : Int} (ha : 0 ≤ a ∧ a < 18446744073709551616) (hb : 0 ≤ b ∧ b < 18446744073709551616) : IntKind.u64.wrap (((BitVec.ofInt 64 a &&& BitVec.ofInt 64 b).toNat : Nat) : Int) = hI 5 a b ∧ IntKind.u64.wrap (((BitVec.ofInt 64 a ||| BitVec.ofInt 64 b).toNat : Nat) : Int) = hI 6 a b ∧ IntKind.u64.wrap (((BitVec.ofInt 64 a ^^^ BitVec.ofInt 64 b).toNat : Nat) : Int) = hI 7 a b := by
 obtain ⟨n, rfl⟩ := Int.eq_ofNat_of_zero_le ha.1;obtain ⟨m, rfl⟩ := Int.eq_ofNat_of_zero_le hb.1;have h1 := ha.2; have h2 := hb.2;have hk : ∀ n : Int, 0 ≤ n → n < 2 ^ 64 → IntKind.u64.wrap n = n := fun n h0 h1 => w64_u ⟨h0, by omega⟩
 exact ⟨(bits_nat .u64 64 (by decide) hk n m (by omega) (by omega)).1, (bits_nat .u64 64 (by decide) hk n m (by omega) (by omega)).2, xor_u64 n m (by omega) (by omega)⟩
theorem h_shl (a b : Int) : IntKind.u64.wrap (a * 2 ^ min (b : Int).toNat IntKind.u64.bits) = hI 8 a b := by rw [w64m]; rfl
theorem h_shr (a b : Int) : Int.fdiv a (2 ^ min (b : Int).toNat IntKind.u64.bits) = hI 9 a b := by
 rw [Int.fdiv_eq_ediv_of_nonneg _ (by exact Int.le_of_lt (Int.pow_pos (by decide)))]; rfl
theorem h_quo {a b : Int} (ha : 0 ≤ a ∧ a < 18446744073709551616) (hb : 0 ≤ b ∧ b < 18446744073709551616) (h : ¬ b = 0) : IntKind.u64.wrap (Int.tdiv a b) = hI 11 a b := by
 rw [Int.tdiv_eq_ediv_of_nonneg ha.1, w64_u ⟨Int.ediv_nonneg ha.1 hb.1, Int.lt_of_le_of_lt (Int.ediv_le_self _ ha.1) ha.2⟩];show a / b = if b = 0 then 0 else a / b
 rw [if_neg h]
theorem hI_in {op a b : Int} (ha : 0 ≤ a ∧ a < 18446744073709551616) (hb : 0 ≤ b ∧ b < 18446744073709551616) : 0 ≤ hI op a b ∧ hI op a b < 18446744073709551616 := by
 obtain ⟨e1, e2, e3⟩ := h_and ha hb;have wi : ∀ x, 0 ≤ IntKind.u64.wrap x ∧ IntKind.u64.wrap x < 18446744073709551616 := fun x => by rw [w64m]; omega
 have g5 : 0 ≤ hI 5 a b ∧ hI 5 a b < 18446744073709551616 := by rw [← e1]; exact wi _
 have g6 : 0 ≤ hI 6 a b ∧ hI 6 a b < 18446744073709551616 := by rw [← e2]; exact wi _
 have g7 : 0 ≤ hI 7 a b ∧ hI 7 a b < 18446744073709551616 := by rw [← e3]; exact wi _
 have g9 : 0 ≤ hI 9 a b ∧ hI 9 a b < 18446744073709551616 := ⟨Int.ediv_nonneg ha.1 (Int.le_of_lt (Int.pow_pos (by decide))), Int.lt_of_le_of_lt (Int.ediv_le_self _ ha.1) ha.2⟩;have g11 : 0 ≤ a / b ∧ a / b < 18446744073709551616 := ⟨Int.ediv_nonneg ha.1 hb.1, Int.lt_of_le_of_lt (Int.ediv_le_self _ ha.1) ha.2⟩
 by_cases h : op = 5
 ·rw [h]; exact g5
 by_cases h' : op = 6
 ·rw [h']; exact g6
 by_cases h'' : op = 7
 ·rw [h'']; exact g7
 by_cases h3 : op = 9
 ·rw [h3]; exact g9
 unfold hI;rw [if_neg h, if_neg h', if_neg h'', if_neg h3]
 repeat' split
 all_goals first | omega | exact ⟨Int.emod_nonneg _ (by decide), Int.emod_lt_of_pos _ (by decide)⟩
structure Sim (s : MS) (G M : List Int) : Prop where
 r : ∀ i : Nat, i < 16 → s.R (i : Int) = G.getD i 0
 m : ∀ i : Nat, i < 256 → s.M (i : Int) = M.getD i 0
theorem Sim.setR {s : MS} {G M : List Int} (h : Sim s G M) (hG : G.length = 16) {rd : Nat} (hrd : rd < 16) (v : Int) : Sim ⟨up s.R (rd : Int) v, s.M⟩ (G.set rd v) M where
 r := fun i hi => by
  show (if (i : Int) = (rd : Int) then v else s.R (i : Int)) = _;rw [getD_set]
  by_cases q : rd = i
  ·rw [if_pos (by omega), if_pos ⟨q, by omega⟩]
  ·rw [if_neg (by omega), if_neg (fun h => q h.1), h.r i hi]
 m := h.m
theorem Sim.setM {s : MS} {G M : List Int} (h : Sim s G M) (hM : M.length = 256) {p : Nat} (hp : p < 256) (v : Int) : Sim ⟨s.R, up s.M (p : Int) v⟩ G (M.set p v) where
 r := h.r
 m := fun i hi => by
  show (if (i : Int) = (p : Int) then v else s.M (i : Int)) = _;rw [getD_set]
  by_cases q : p = i
  ·rw [if_pos (by omega), if_pos ⟨q, by omega⟩]
  ·rw [if_neg (by omega), if_neg (fun h => q h.1), h.m i hi]
def simOf (G M : List Int) : MS := ⟨fun i => G.getD i.toNat 0, fun i => M.getD i.toNat 0⟩
theorem sim_of (G M : List Int) : Sim (simOf G M) G M := ⟨fun i _ => by show G.getD (i : Int).toNat 0 = _; rw [Int.toNat_natCast], fun i _ => by show M.getD (i : Int).toNat 0 = _; rw [Int.toNat_natCast]⟩
noncomputable def f89b : Code := Try.f89.body.getD .skip
theorem hreckon_s {op a b : Int} (ho : 2 ≤ op ∧ op ≤ 13) (ha : 0 ≤ a ∧ a < 18446744073709551616) (hb : 0 ≤ b ∧ b < 18446744073709551616) : SCall Try.prog T15 89 #[jI op, .int .u64 a, .int .u64 b] (hq []) fun v h => v = .int .u64 (hI op a b) ∧ h = hq [] := by
 rcases (by omega : op = 2 ∨ op = 3 ∨ op = 4 ∨ op = 5 ∨ op = 6 ∨ op = 7 ∨ op = 8 ∨ op = 9 ∨ op = 10 ∨ op = 11 ∨ op = 12 ∨ op = 13) with rfl | rfl | rfl | rfl | rfl | rfl | rfl | rfl | rfl | rfl | rfl | rfl
 ·refine zS Try.f89 f89b 68 0 fun X hX => ?_
  refine sd_run 28 ?_;refine zY (.int .u64 a) hX [] ⟨(by first | (congr 1; done) | (congr 1; exact rfl)), rfl⟩
 ·refine zS Try.f89 f89b 68 0 fun X hX => ?_
  refine sd_run 37 ?_;refine zY (.int .u64 (IntKind.u64.wrap (a + b))) hX [] ⟨(by first | (congr 1; done) | (congr 1; exact w64m _)), rfl⟩
 ·refine zS Try.f89 f89b 68 0 fun X hX => ?_
  refine sd_run 44 ?_;refine zY (.int .u64 (IntKind.u64.wrap (a - b))) hX [] ⟨(by first | (congr 1; done) | (congr 1; exact w64m _)), rfl⟩
 ·refine zS Try.f89 f89b 68 0 fun X hX => ?_
  refine sd_run 51 ?_;refine zY (.int .u64 (IntKind.u64.wrap (((BitVec.ofInt 64 a &&& BitVec.ofInt 64 b).toNat : Nat) : Int))) hX [] ⟨(by first | (congr 1; done) | (congr 1; exact (h_and ha hb).1)), rfl⟩
 ·refine zS Try.f89 f89b 68 0 fun X hX => ?_
  refine sd_run 58 ?_;refine zY (.int .u64 (IntKind.u64.wrap (((BitVec.ofInt 64 a ||| BitVec.ofInt 64 b).toNat : Nat) : Int))) hX [] ⟨(by first | (congr 1; done) | (congr 1; exact (h_and ha hb).2.1)), rfl⟩
 ·refine zS Try.f89 f89b 68 0 fun X hX => ?_
  refine sd_run 65 ?_;refine zY (.int .u64 (IntKind.u64.wrap (((BitVec.ofInt 64 a ^^^ BitVec.ofInt 64 b).toNat : Nat) : Int))) hX [] ⟨(by first | (congr 1; done) | (congr 1; exact (h_and ha hb).2.2)), rfl⟩
 ·refine zS Try.f89 f89b 68 0 fun X hX => ?_
  refine sd_run 65 (sd_bin 40 (.int .u64 (IntKind.u64.wrap (a * 2 ^ min (b : Int).toNat IntKind.u64.bits))) .shl 33 (.int .u64 a) (.int .u64 b) kr kr kr (ab_shl (decide_eq_false zo)) (sd_run 6 ?_));refine zY (.int .u64 (IntKind.u64.wrap (a * 2 ^ min (b : Int).toNat IntKind.u64.bits))) hX [] ⟨(by first | (congr 1; done) | (congr 1; exact h_shl _ _)), rfl⟩
 ·refine zS Try.f89 f89b 68 0 fun X hX => ?_
  refine sd_run 72 (sd_bin 45 (.int .u64 (Int.fdiv a (2 ^ min (b : Int).toNat IntKind.u64.bits))) .shr 33 (.int .u64 a) (.int .u64 b) kr kr kr (ab_shr (decide_eq_false zo)) (sd_run 6 ?_));refine zY (.int .u64 (Int.fdiv a (2 ^ min (b : Int).toNat IntKind.u64.bits))) hX [] ⟨(by first | (congr 1; done) | (congr 1; exact h_shr _ _)), rfl⟩
 ·refine zS Try.f89 f89b 68 0 fun X hX => ?_
  refine sd_run 86 ?_;refine zY (.int .u64 (IntKind.u64.wrap (a * b))) hX [] ⟨(by first | (congr 1; done) | (congr 1; exact w64m _)), rfl⟩
 ·by_cases hb0 : b = 0
  ·refine zS Try.f89 f89b 68 0 fun X hX => ?_
   refine sd_run 87 (sd_see 54 (.bool true) (see_bool (x := ((b : Int) == 0)) kr (by rw [hb0]; rfl)) (sd_run 12 ?_));refine zY (.int .u64 0) hX [] ⟨(by first | (congr 1; done) | (congr 1; exact (by rw [hb0]; rfl))), rfl⟩
  ·refine zS Try.f89 f89b 68 0 fun X hX => ?_
   refine sd_run 87 (sd_see 54 (.bool false) (see_bool (x := ((b : Int) == 0)) kr (beq_eq_false_iff_ne.2 hb0)) (sd_run 9 (sd_bin 57 (.int .u64 (IntKind.u64.wrap (Int.tdiv a b))) .quo 33 (.int .u64 a) (.int .u64 b) kr kr kr (ab_quo (beq_eq_false_iff_ne.2 hb0)) (sd_run 6 ?_))));refine zY (.int .u64 (IntKind.u64.wrap (Int.tdiv a b))) hX [] ⟨(by first | (congr 1; done) | (congr 1; exact h_quo ha hb hb0)), rfl⟩
 ·by_cases hcmp : a < b
  ·refine zS Try.f89 f89b 68 0 fun X hX => ?_
   refine sd_run 94 (sd_see 62 (.bool true) (see_bool (x := (decide ((a : Int) < b))) kr (decide_eq_true hcmp)) (sd_run 27 ?_));refine zY (.int .u64 1) hX [] ⟨(by first | (congr 1; done) | (congr 1; exact (if_pos hcmp).symm)), rfl⟩
  ·refine zS Try.f89 f89b 68 0 fun X hX => ?_
   refine sd_run 94 (sd_see 62 (.bool false) (see_bool (x := (decide ((a : Int) < b))) kr (decide_eq_false hcmp)) (sd_run 28 ?_));refine zY (.int .u64 0) hX [] ⟨(by first | (congr 1; done) | (congr 1; exact (if_neg hcmp).symm)), rfl⟩
 ·by_cases hcmp : a = b
  ·refine zS Try.f89 f89b 68 0 fun X hX => ?_
   refine sd_run 97 (sd_see 66 (.bool true) (see_bool (x := ((a : Int) == b)) kr (beq_iff_eq.2 hcmp)) (sd_run 25 ?_));refine zY (.int .u64 1) hX [] ⟨(by first | (congr 1; done) | (congr 1; exact (if_pos hcmp).symm)), rfl⟩
  ·refine zS Try.f89 f89b 68 0 fun X hX => ?_
   refine sd_run 97 (sd_see 66 (.bool false) (see_bool (x := ((a : Int) == b)) kr (beq_eq_false_iff_ne.2 hcmp)) (sd_run 26 ?_));refine zY (.int .u64 0) hX [] ⟨(by first | (congr 1; done) | (congr 1; exact (if_neg hcmp).symm)), rfl⟩
end Ls
end Go.Proofs.Ytihacfclecanjaa
