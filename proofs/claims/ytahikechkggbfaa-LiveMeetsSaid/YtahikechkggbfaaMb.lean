/- LiveMeets: the first loop's regions. -/
import Derived.Test.YtahikechkggbfaaMa
namespace Go.Proofs.Ytahikechkggbfaa
open Go Go.Ev
set_option linter.unusedVariables false
set_option linter.unusedSimpArgs false
set_option maxRecDepth 100000
namespace Me
def KnowsL (s : St) : List (Nat × Value) → Prop
  | [] => True
  | (i, v) :: r => (s.tm.get i).getD undef = v ∧ KnowsL s r
theorem knows {s : St} : ∀ {L : List (Nat × Value)}, KnowsL s L → Knows s L := by
  intro L
  induction L with
  | nil => intro _ p hp; cases hp
  | cons q r ih =>
    intro h p hp
    rcases List.mem_cons.1 hp with rfl | hp
    · exact h.1
    · exact ih h.2 p hp
abbrev A1 (c : Code) (Q : Xt → St → Prop) (L : List (Nat × Value)) (d : Nat → Value) (H : Heap) : Prop := Aw Try.prog T1 145 c Q ⟨tK L d, H⟩
abbrev L0 (a : Option Addr) (len cap : Nat) (n : Int) (v : Value) (k : Nat) : List (Nat × Value) := [(0, .slice a len cap), (1, .int .i64 n), (4, .bool false), (5, v), (6, .int .i64 k)]
theorem load3 {H : Heap} {b q : Nat} {ob : Ob} {x : Value} (hob : H.get b = some ob) (hx : ob.cells[q]? = some x) : aload T1 3 (.pointer (some ⟨b, q, none⟩)) H = some x := by
  unfold aload
  simp only [hob, und3, size3, isRow, cond_false, hx]
theorem load40 {H : Heap} {b q : Nat} {ob : Ob} {x y z : Value} (hob : H.get b = some ob) (hx : (ob.cells.drop q).take 3 = [x, y, z]) : aload T1 40 (.pointer (some ⟨b, q, none⟩)) H = some (.agg #[x, y, z]) := by
  unfold aload
  simp only [hob, und40, size40, isRow, cond_true, hx]
  rfl
theorem app_nil (H : Heap) (x y z : Int) : aappend T1 31 31 (.slice none 0 0) (.slice (some ⟨H.n, 0, none⟩) 1 1) (H.push ⟨[.int .i64 x, .int .i64 y, .int .i64 z], 40, false⟩) =
    some (.slice (some ⟨H.n + 1, 0, none⟩) 1 (unk + 3), (H.push ⟨[.int .i64 x, .int .i64 y, .int .i64 z], 40, false⟩).push ⟨[.int .i64 x, .int .i64 y, .int .i64 z], 40, false⟩) := by
  have hg : (H.push ⟨[.int .i64 x, .int .i64 y, .int .i64 z], 40, false⟩).get H.n = some ⟨[.int .i64 x, .int .i64 y, .int .i64 z], 40, false⟩ := by rw [Heap.get_push, if_pos rfl]
  unfold aappend
  simp only [und31, size40, bytes40, zero40, isIntD, cond_false, asrc, hg]
  rfl
theorem app_grow (H : Heap) (B k : Nat) (xs : List Value) (x y z : Int) (hB : B < H.n) (hg : H.get B = some ⟨xs, 40, false⟩) (hx : xs.length = k * 3) (hk : k ≤ 1000) :
    aappend T1 31 31 (.slice (some ⟨B, 0, none⟩) k (unk + 3)) (.slice (some ⟨H.n, 0, none⟩) 1 1) (H.push ⟨[.int .i64 x, .int .i64 y, .int .i64 z], 40, false⟩) =
    some (.slice (some ⟨H.n + 1, 0, none⟩) (k + 1) (unk + 3), ((H.push ⟨[.int .i64 x, .int .i64 y, .int .i64 z], 40, false⟩).kill B).push ⟨xs ++ [.int .i64 x, .int .i64 y, .int .i64 z], 40, false⟩) := by
  have hg1 : (H.push ⟨[.int .i64 x, .int .i64 y, .int .i64 z], 40, false⟩).get H.n = some ⟨[.int .i64 x, .int .i64 y, .int .i64 z], 40, false⟩ := by rw [Heap.get_push, if_pos rfl]
  have hg2 : (H.push ⟨[.int .i64 x, .int .i64 y, .int .i64 z], 40, false⟩).get B = some ⟨xs, 40, false⟩ := by rw [Heap.get_push, if_neg (by omega)]; exact hg
  have e1 : (blockOf (.slice (some ⟨H.n, 0, none⟩) 1 1) == some B) = false := by
    show ((some H.n : Option Nat) == some B) = false
    simp; omega
  have e2 : unk.ble (unk + 3) = true := by rw [ble_dec]; simp
  have e3 : (0 + k * (2 + 1)).ble xs.length = true := by rw [ble_dec]; simp [hx]
  have e4 : ((k + 1) * (23 + 1)).ble 140737488355328 = true := by rw [ble_dec]; simp; omega
  have e5 : [Value.int .i64 x, .int .i64 y, .int .i64 z].all one = true := rfl
  have e6 : (Value.int .i64 x :: [.int .i64 y, .int .i64 z]).length = 3 := rfl
  have e7 : (xs.drop 0).take (k * (2 + 1)) = xs := by rw [List.drop_zero, List.take_of_length_le (by omega)]
  unfold aappend
  simp only [und31, size40, bytes40, zero40, isIntD, cond_false, asrc, hg1]
  simp only [List.drop_zero, Nat.one_mul, e1, cond_false, hg2, e2, cond_true]
  simp only [List.take_succ_cons, List.take_zero, List.length_cons, List.length_nil, Nat.zero_add, Nat.reduceAdd, Nat.beq_refl, cond_true]
  have e8 : Nat.beq 1 0 = false := rfl
  have e9 : Nat.beq 3 3 = true := rfl
  have e10 : Nat.beq 40 40 = true := rfl
  have e7' : xs.take (k * (2 + 1)) = xs := List.take_of_length_le (by omega)
  have e3' : (k * 3).ble xs.length = true := by rw [ble_dec]; simp [hx]
  simp only [Nat.reduceAdd, Nat.reduceMul] at e3 e4 e7 e7'
  simp only [Nat.reduceAdd, Nat.reduceMul, e3, e3', e4, e5, e7, e7', e8, e9, e10, Bool.and_self, cond_true, cond_false]
  rfl

section
variable {Q : Xt → St → Prop} {a : Option Addr} {len cap k : Nat} {n : Int} {v : Value} {d : Nat → Value} {H : Heap}
theorem reg3_t (h : decide ((k : Int) < (len : Int)) = true) (hq : ∀ s', Knows s' ((20, .bool (decide ((k : Int) < 25))) :: L0 a len cap n v k) → s'.H = H → Q .normal s') : A1 a3 Q (L0 a len cap n v k) d H := by
  unfold A1
  rw [r3]
  refine aw_reg ?_
  refine aops_go 5 9 (by kernel_rfl) ?_
  refine aops_see 17 (.bool true) ((by kernel_rfl : _ = some (.bool (decide ((k : Int) < (len : Int))))).trans (by rw [h])) ?_
  refine aops_go 3 9 (by kernel_rfl) ?_
  exact aops_end (by kernel_rfl) (hq _ (knows ⟨by kernel_rfl, by kernel_rfl, by kernel_rfl, by kernel_rfl, by kernel_rfl, by kernel_rfl, True.intro⟩) (by kernel_rfl))
theorem reg3_f (h : decide ((k : Int) < (len : Int)) = false) (hq : ∀ s', Knows s' ((20, .bool false) :: L0 a len cap n v k) → s'.H = H → Q .normal s') : A1 a3 Q (L0 a len cap n v k) d H := by
  unfold A1
  rw [r3]
  refine aw_reg ?_
  refine aops_go 5 9 (by kernel_rfl) ?_
  refine aops_see 17 (.bool false) ((by kernel_rfl : _ = some (.bool (decide ((k : Int) < (len : Int))))).trans (by rw [h])) ?_
  refine aops_go 3 9 (by kernel_rfl) ?_
  exact aops_end (by kernel_rfl) (hq _ (knows ⟨by kernel_rfl, by kernel_rfl, by kernel_rfl, by kernel_rfl, by kernel_rfl, by kernel_rfl, True.intro⟩) (by kernel_rfl))
theorem reg4 (hq : ∀ s', Knows s' [(0, .slice a len cap), (1, .int .i64 n), (4, .bool false), (5, v), (6, .int .i64 (IntKind.i64.wrap ((k : Int) + 1)))] → s'.H = H → Q .normal s') : A1 a4 Q (L0 a len cap n v k) d H := by
  unfold A1
  rw [r4]
  refine aw_reg ?_
  refine aops_go 3 9 (by kernel_rfl) ?_
  exact aops_end (by kernel_rfl) (hq _ (knows ⟨by kernel_rfl, by kernel_rfl, by kernel_rfl, by kernel_rfl, by kernel_rfl, True.intro⟩) (by kernel_rfl))
end
section
variable {Q : Xt → St → Prop} {b off len cap k : Nat} {n : Int} {v : Value} {d : Nat → Value} {H : Heap} {x y F S : Int} {ob : Ob}
theorem reg5 (hb : k.blt len = true) (hob : H.get b = some ob) (h0 : ob.cells[off + k * 2]? = some (.int .i64 x)) (hi : inB x 0 40 = true) (hF : 0 + x % (40 - 0 + 1) = F)
    (hq : ∀ s', Knows s' ((7, .int .i64 F) :: L0 (some ⟨b, off, none⟩) len cap n v k) → s'.H = H → Q .normal s') : A1 a5 Q (L0 (some ⟨b, off, none⟩) len cap n v k) d H := by
  subst hF
  unfold A1
  rw [r5]
  refine aw_reg ?_
  refine aops_go 2 9 (by kernel_rfl) ?_
  refine aops_val 25 (.pointer (some ⟨b, off + k * 2, none⟩)) H (by kernel_rfl) (by kernel_rfl) (by kernel_rfl) ((by kernel_rfl : _ = val (bif k.blt len then some (.pointer (some ⟨b, off + k * 2, none⟩)) else none) H).trans (by rw [hb]; rfl)) ?_
  refine aops_go 1 9 (by kernel_rfl) ?_
  refine aops_val 27 (.int .i64 x) H (by kernel_rfl) (by kernel_rfl) (by kernel_rfl) ((by kernel_rfl : _ = val (aload T1 3 (.pointer (some ⟨b, off + k * 2, none⟩)) H) H).trans (val_of (load3 hob h0))) ?_
  refine aops_ask 28 (.int .i64 (0 + x % (40 - 0 + 1))) 12 #[.int .i64 x, .int .i64 0, .int .i64 40] (by kernel_rfl) (by kernel_rfl) (by kernel_rfl) (by kernel_rfl) (orc12 x 0 40 hi) ?_
  refine aops_go 1 9 (by kernel_rfl) ?_
  exact aops_end (by kernel_rfl) (hq _ (knows ⟨by kernel_rfl, by kernel_rfl, by kernel_rfl, by kernel_rfl, by kernel_rfl, by kernel_rfl, True.intro⟩) (by kernel_rfl))
theorem reg6 (v' : Value) (H' : Heap) (hb : k.blt len = true) (hob : H.get b = some ob) (h0 : ob.cells[off + k * 2 + 1]? = some (.int .i64 y)) (hi : inB y 1 9 = true)
    (happ : aappend T1 31 31 v (.slice (some ⟨H.n, 0, none⟩) 1 1) (H.push ⟨[.int .i64 k, .int .i64 F, .int .i64 (IntKind.i64.wrap (F + (1 + y % (9 - 1 + 1))))], 40, false⟩) = some (v', H'))
    (hq : ∀ s', Knows s' (L0 (some ⟨b, off, none⟩) len cap n v' k) → s'.H = H' → Q .normal s') : A1 a6 Q ((7, .int .i64 F) :: L0 (some ⟨b, off, none⟩) len cap n v k) d H := by
  unfold A1
  rw [r6]
  refine aw_reg ?_
  refine aops_go 6 9 (by kernel_rfl) ?_
  refine aops_val 35 (.pointer (some ⟨b, off + k * 2, none⟩)) H (by kernel_rfl) (by kernel_rfl) (by kernel_rfl) ((by kernel_rfl : _ = val (bif k.blt len then some (.pointer (some ⟨b, off + k * 2, none⟩)) else none) H).trans (by rw [hb]; rfl)) ?_
  refine aops_go 1 9 (by kernel_rfl) ?_
  refine aops_val 37 (.int .i64 y) H (by kernel_rfl) (by kernel_rfl) (by kernel_rfl) ((by kernel_rfl : _ = val (aload T1 3 (.pointer (some ⟨b, off + k * 2 + 1, none⟩)) H) H).trans (val_of (load3 hob h0))) ?_
  refine aops_ask 38 (.int .i64 (1 + y % (9 - 1 + 1))) 12 #[.int .i64 y, .int .i64 1, .int .i64 9] (by kernel_rfl) (by kernel_rfl) (by kernel_rfl) (by kernel_rfl) (orc12 y 1 9 hi) ?_
  refine aops_go 3 9 (by kernel_rfl) ?_
  refine aops_val 42 v' H' (by kernel_rfl) (by kernel_rfl) (by kernel_rfl) ((by kernel_rfl : _ = val2 (aappend T1 31 31 v (.slice (some ⟨H.n, 0, none⟩) 1 1) (H.push ⟨[.int .i64 k, .int .i64 F, .int .i64 (IntKind.i64.wrap (F + (1 + y % (9 - 1 + 1))))], 40, false⟩))).trans (by rw [happ]; rfl)) ?_
  refine aops_go 1 9 (by kernel_rfl) ?_
  exact aops_end (by kernel_rfl) (hq _ (knows ⟨by kernel_rfl, by kernel_rfl, by kernel_rfl, by kernel_rfl, by kernel_rfl, True.intro⟩) (by kernel_rfl))
end
end Me
end Go.Proofs.Ytahikechkggbfaa
