/- Pressure, by the evaluator. -/
import Derived.Test.YtahikechkggbfaaB
import Derived.Test.YtahikechkggbfaaEvV
import Derived.KernelRfl
namespace Go.Proofs.Ytahikechkggbfaa
open Go Go.Ev
set_option linter.unusedVariables false
set_option linter.unusedSimpArgs false
def agg3 : Value → Option (Int × Int × Int)
  | .agg c => match c.toList with
    | [.int .i64 a, .int .i64 b, .int .i64 t] => some (a, b, t)
    | _ => none
  | _ => none
def inB (n lo hi : Int) : Bool := decide (-9223372036854775808 ≤ n) && decide (n ≤ 9223372036854775807) && decide (0 ≤ lo) && decide (lo ≤ hi) && decide (hi ≤ 1099511627776)
def orc20 : FuncId → List Value → Option Value
  | 11, [] => some (.bool true)
  | 12, [.int .i64 n, .int .i64 lo, .int .i64 hi] => bif inB n lo hi then some (.int .i64 (lo + n % (hi - lo + 1))) else none
  | 13, [a, b] => match agg3 a, agg3 b with
    | some (_, f, t), some (_, f', t') => some (.bool (meetB f t f' t'))
    | _, _ => none
  | 14, [a, b] => match agg3 a, agg3 b with
    | some (_, f, t), some (_, f', t') => some (.bool (meetB f t f' t'))
    | _, _ => none
  | 22, [a, .int .i64 x] => match agg3 a with
    | some (_, f, t) => some (.bool (atB f t x))
    | none => none
  | 33, [.int .i64 n, .int .i64 x] => some (.bool (valB n x))
  | _, _ => none
theorem agg3_spec {v : Value} {a b c : Int} (h : agg3 v = some (a, b, c)) : v = .agg #[.int .i64 a, .int .i64 b, .int .i64 c] := by
  unfold agg3 at h
  split at h
  · rename_i cs
    split at h
    · rename_i x y z hl
      cases h
      congr 1
      exact Array.ext' hl
    · cases h
  · cases h
theorem progOk0 : ProgOk Try.prog (tabOf Try.prog) := progOk_of (by kernel_rfl) (by kernel_rfl)
theorem known_calls (w : World) : Calls Try.prog 11 #[] w fun e w' => e = .returned (.bool true) ∧ Quiet w w' := true_calls (k := 300) progOk0 (by kernel_rfl) w
theorem quiet_eq {v : Value} {e : Ending} {w w' : World} (h : e = .returned v ∧ w = w') : e = .returned v ∧ Quiet w w' := ⟨h.1, by rw [h.2]; exact Quiet.refl _⟩
theorem quiet_below {v : Value} {e : Ending} {w w' : World} (h : e = .returned v ∧ RowKit.Below w.heap.size w w') : e = .returned v ∧ Quiet w w' := ⟨h.1, Quiet.of_below h.2⟩
theorem orc20_ok (f : FuncId) (args : List Value) (v : Value) (h : orc20 f args = some v) : closed v = true ∧ args.all closed = true ∧ ∀ w, Calls Try.prog f args.toArray w fun e w' => e = .returned v ∧ Quiet w w' := by
  unfold orc20 at h
  split at h
  · cases h
    exact ⟨rfl, rfl, known_calls⟩
  · rename_i n lo hi
    cases hb : inB n lo hi
    · rw [hb] at h; cases h
    · rw [hb] at h; cases h
      simp only [inB, Bool.and_eq_true, decide_eq_true_eq] at hb
      obtain ⟨⟨⟨⟨h1, h2⟩, h3⟩, h4⟩, h5⟩ := hb
      exact ⟨rfl, rfl, fun w => (within_any n lo hi w h1 h2 h3 h4 h5).mono fun _ _ => quiet_eq⟩
  · rename_i a b
    split at h
    · rename_i x f t x' f' t' e1 e2
      cases h
      rw [agg3_spec e1, agg3_spec e2]
      exact ⟨rfl, rfl, fun w => (meet_any x f t x' f' t' w).mono fun _ _ => quiet_below⟩
    · cases h
  · rename_i a b
    split at h
    · rename_i x f t x' f' t' e1 e2
      cases h
      rw [agg3_spec e1, agg3_spec e2]
      exact ⟨rfl, rfl, fun w => (rmeet_any x f t x' f' t' w).mono fun _ _ => quiet_below⟩
    · cases h
  · rename_i a x
    split at h
    · rename_i y f t e1
      cases h
      rw [agg3_spec e1]
      exact ⟨rfl, rfl, fun w => (at_any y f t x w).mono fun _ _ => quiet_below⟩
    · cases h
  · cases h
    exact ⟨rfl, rfl, fun w => (value_any _ _ w).mono fun _ _ => quiet_eq⟩
  · cases h
noncomputable def T1 : Tab := { tabOf Try.prog with orc := orc20 }
theorem progOk1 : ProgOk Try.prog T1 := progOk0.withOrc orc20 orc20_ok
theorem und31 : T1.under 31 = some (.slice 40) := Try.underlying31
theorem und40 : T1.under 40 = some (.struct #[⟨"Value", 3, 0, false, "", "", 0⟩, ⟨"From", 3, 1, false, "", "", 8⟩, ⟨"To", 3, 2, false, "", "", 16⟩]) := Try.underlying40
theorem und3 : T1.under 3 = some (.int .i64) := Try.underlying3
theorem und4 : T1.under 4 = some .bool := Try.underlying4
theorem und34 : T1.under 34 = some (.slice 38) := Try.underlying34
theorem und38 : T1.under 38 = some (.struct #[⟨"From", 3, 0, false, "", "", 0⟩, ⟨"Size", 3, 1, false, "", "", 8⟩]) := Try.underlying38
theorem size40 : T1.size 40 = some 3 := by kernel_rfl
theorem size3 : T1.size 3 = some 1 := by kernel_rfl
theorem size38 : T1.size 38 = some 2 := by kernel_rfl
theorem bytes40 : T1.bytes 40 = some 24 := by kernel_rfl
theorem zero40 : T1.zero 40 = some (.agg #[.int .i64 0, .int .i64 0, .int .i64 0]) := by kernel_rfl
theorem fn15 : T1.fn 15 = some Try.f15 := by kernel_rfl
theorem fn5 : T1.fn 5 = some Try.f5 := by kernel_rfl
theorem orc13 (a b c d e f : Int) : T1.orc 13 [.agg #[.int .i64 a, .int .i64 b, .int .i64 c], .agg #[.int .i64 d, .int .i64 e, .int .i64 f]] = some (.bool (meetB b c e f)) := rfl
theorem orc12 (n lo hi : Int) (h : inB n lo hi = true) : T1.orc 12 [.int .i64 n, .int .i64 lo, .int .i64 hi] = some (.int .i64 (lo + n % (hi - lo + 1))) := by
  show (bif inB n lo hi then some (Value.int .i64 (lo + n % (hi - lo + 1))) else none) = _
  rw [h]; rfl
theorem orc11 : T1.orc 11 [] = some (.bool true) := rfl
/-- The cells of a slice. -/
def SlAt (H : Heap) (a : Option Addr) (xs : List Value) : Prop := 0 < xs.length → ∃ b off ob, a = some ⟨b, off, none⟩ ∧ b < H.n ∧ H.get b = some ob ∧ ∀ (i : Nat) (x : Value), xs[i]? = some x → ob.cells[off + i]? = some x
theorem SlAt.ext {H H' : Heap} {a : Option Addr} {xs : List Value} (h : SlAt H a xs) (he : Ext H H') : SlAt H' a xs := fun h0 => by
  obtain ⟨b, off, ob, h1, h2, h3, h4⟩ := h h0
  exact ⟨b, off, ob, h1, Nat.lt_of_lt_of_le h2 he.n, by rw [he.get b h2]; exact h3, h4⟩
theorem SlAt.take {α : Type} (c : α → List Value) (n : Nat) (hn : 0 < n) (hc : ∀ x, (c x).length = n) {H : Heap} {a : Option Addr} {l : List α} (h : SlAt H a (l.flatMap c)) (k : Nat) (hk : k < l.length) :
    ∃ b off ob, a = some ⟨b, off, none⟩ ∧ b < H.n ∧ H.get b = some ob ∧ (ob.cells.drop (off + k * n)).take n = c l[k] := by
  have hlen := flat_length c n hc l
  obtain ⟨b, off, ob, h1, h2, h3, h4⟩ := h (by rw [hlen]; exact Nat.mul_pos (by omega) hn)
  refine ⟨b, off, ob, h1, h2, h3, ?_⟩
  apply List.ext_getElem?
  intro j
  by_cases hj : j < n
  · rw [List.getElem?_take, if_pos hj, List.getElem?_drop]
    have hg := flat_get c n hc l k j hj
    rw [List.getElem?_eq_getElem hk, Option.bind_some] at hg
    have hs : (c l[k])[j]? = some ((c l[k])[j]'(by rw [hc]; exact hj)) := List.getElem?_eq_getElem _
    rw [hs] at hg ⊢
    have := h4 _ _ hg
    rwa [← Nat.add_assoc] at this
  · rw [List.getElem?_take, if_neg hj, List.getElem?_eq_none (by rw [hc]; omega)]
set_option maxRecDepth 100000 in
set_option maxHeartbeats 4000000 in
theorem pressure_ev (a : Option Addr) (cap : Nat) (l : List IV) (H : Heap) (hw : HWf H) (hl : l.length ≤ 1000) (hA : SlAt H a (ivs l)) :
    ACall Try.prog T1 15 #[.slice a l.length cap] H (fun v H' => v = .int .i64 (most l l) ∧ Ext H H') := by
  refine acall_of rfl fn15 rfl ?_
  simp only [Try.f15]
  rw [show (⟨initTm 0 #[.slice a l.length cap], H⟩ : St) = ⟨Tr.lf.put 0 (some (.slice a l.length cap)), H⟩ from rfl]
  repeat (first
    | with_reducible refine aw_seq' ?_
    | with_reducible refine then_normal ?_
    | with_reducible refine kt ?_
    | (with_reducible refine aops_nil (hK _ ?_); clear hK K)
    | (with_reducible refine aopsC_nil (hK _ ?_); clear hK K)
    | (with_reducible refine aops_cons ?_; simp only [AStep, AStepC, APut, awanted, aop, aeval, aevals, aevalo, aevalp, acall, aappend, asrc, isIntD, blockOf, amakeSlice, abuild, abuildSlice, places, Instr.fill, zerosOf, results1, aresults, isLoad, veq, veqs, veq0, acall, dput, val, val2, skp, orVal, abin, aslice, afield, aindexAddr, aindex, aload, astore, aput, splice, apart, isRow, closed, plain, one, isShift, ibin, cond_true, cond_false, Tr.get_put, Heap.get_put, Heap.get_push, Heap.n_push, Heap.n_put, Option.getD_some, blt_dec, ble_dec, beq_dec, Nat.reduceLT, Nat.reduceLeDiff, Nat.reduceAdd, Nat.reduceMul, decide_true, decide_false, Nat.reduceEqDiff, if_true, if_false, BEq.refl, reduceIte, Bool.and_true, Bool.true_and, Bool.and_self, Bool.not_true, Bool.not_false, List.size_toArray, List.length_cons, List.length_nil, List.getElem?_toArray, List.toList_toArray, Value.cells, List.all_cons, List.all_nil, List.take_succ_cons, List.take_zero, List.drop_succ_cons, List.drop_zero, List.cons_append, List.set_cons_succ, List.set_cons_zero, List.length_append, List.length_set, List.getElem?_cons_succ, List.getElem?_cons_zero, List.take_nil, List.drop_nil, Nat.le_refl, true_and, and_true, Bool.false_eq_true, false_implies, true_implies, forall_const, beq_self_eq_true, Option.map_some, Option.bind_some, Nat.add_zero, Nat.zero_add, List.append_nil, List.nil_append, Nat.reduceSub, und31])
    | (with_reducible refine aopsC_cons ?_; simp only [AStep, AStepC, APut, awanted, aop, aeval, aevals, aevalo, aevalp, acall, aappend, asrc, isIntD, blockOf, amakeSlice, abuild, abuildSlice, places, Instr.fill, zerosOf, results1, aresults, isLoad, veq, veqs, veq0, acall, dput, val, val2, skp, orVal, abin, aslice, afield, aindexAddr, aindex, aload, astore, aput, splice, apart, isRow, closed, plain, one, isShift, ibin, cond_true, cond_false, Tr.get_put, Heap.get_put, Heap.get_push, Heap.n_push, Heap.n_put, Option.getD_some, blt_dec, ble_dec, beq_dec, Nat.reduceLT, Nat.reduceLeDiff, Nat.reduceAdd, Nat.reduceMul, decide_true, decide_false, Nat.reduceEqDiff, if_true, if_false, BEq.refl, reduceIte, Bool.and_true, Bool.true_and, Bool.and_self, Bool.not_true, Bool.not_false, List.size_toArray, List.length_cons, List.length_nil, List.getElem?_toArray, List.toList_toArray, Value.cells, List.all_cons, List.all_nil, List.take_succ_cons, List.take_zero, List.drop_succ_cons, List.drop_zero, List.cons_append, List.set_cons_succ, List.set_cons_zero, List.length_append, List.length_set, List.getElem?_cons_succ, List.getElem?_cons_zero, List.take_nil, List.drop_nil, Nat.le_refl, true_and, and_true, Bool.false_eq_true, false_implies, true_implies, forall_const, beq_self_eq_true, Option.map_some, Option.bind_some, Nat.add_zero, Nat.zero_add, List.append_nil, List.nil_append, Nat.reduceSub, und31])
    | with_reducible refine aw_region_k fun K hK => ?_
    | refine aw_draw0_k (by kernel_rfl) fun K hK => ?_
    | with_reducible refine aw_drawC_k fun K hK => ?_
    | with_reducible refine aw_block ?_
    | with_reducible refine aw_skip ?_
    | with_reducible refine aw_exit ?_
    | with_reducible refine aw_ret ?_
    | with_reducible refine blk_normal ?_
    | with_reducible refine blk_hit ?_
    | (with_reducible refine blk_miss ?_ ?_; rfl)
    | with_reducible refine blk_ret ?_
    | with_reducible refine then_exit ?_
    | with_reducible refine then_ret ?_
    | (refine acall_orc rfl ?_; simp only [AStep, AStepC, APut, awanted, aop, aeval, aevals, aevalo, aevalp, acall, aappend, asrc, isIntD, blockOf, amakeSlice, abuild, abuildSlice, places, Instr.fill, zerosOf, results1, aresults, isLoad, veq, veqs, veq0, acall, dput, val, val2, skp, orVal, abin, aslice, afield, aindexAddr, aindex, aload, astore, aput, splice, apart, isRow, closed, plain, one, isShift, ibin, cond_true, cond_false, Tr.get_put, Heap.get_put, Heap.get_push, Heap.n_push, Heap.n_put, Option.getD_some, blt_dec, ble_dec, beq_dec, Nat.reduceLT, Nat.reduceLeDiff, Nat.reduceAdd, Nat.reduceMul, decide_true, decide_false, Nat.reduceEqDiff, if_true, if_false, BEq.refl, reduceIte, Bool.and_true, Bool.true_and, Bool.and_self, Bool.not_true, Bool.not_false, List.size_toArray, List.length_cons, List.length_nil, List.getElem?_toArray, List.toList_toArray, Value.cells, List.all_cons, List.all_nil, List.take_succ_cons, List.take_zero, List.drop_succ_cons, List.drop_zero, List.cons_append, List.set_cons_succ, List.set_cons_zero, List.length_append, List.length_set, List.getElem?_cons_succ, List.getElem?_cons_zero, List.take_nil, List.drop_nil, Nat.le_refl, true_and, and_true, Bool.false_eq_true, false_implies, true_implies, forall_const, beq_self_eq_true, Option.map_some, Option.bind_some, Nat.add_zero, Nat.zero_add, List.append_nil, List.nil_append, Nat.reduceSub, und31])
    | (refine aw_cond (by simp only [AStep, AStepC, APut, awanted, aop, aeval, aevals, aevalo, aevalp, acall, aappend, asrc, isIntD, blockOf, amakeSlice, abuild, abuildSlice, places, Instr.fill, zerosOf, results1, aresults, isLoad, veq, veqs, veq0, acall, dput, val, val2, skp, orVal, abin, aslice, afield, aindexAddr, aindex, aload, astore, aput, splice, apart, isRow, closed, plain, one, isShift, ibin, cond_true, cond_false, Tr.get_put, Heap.get_put, Heap.get_push, Heap.n_push, Heap.n_put, Option.getD_some, blt_dec, ble_dec, beq_dec, Nat.reduceLT, Nat.reduceLeDiff, Nat.reduceAdd, Nat.reduceMul, decide_true, decide_false, Nat.reduceEqDiff, if_true, if_false, BEq.refl, reduceIte, Bool.and_true, Bool.true_and, Bool.and_self, Bool.not_true, Bool.not_false, List.size_toArray, List.length_cons, List.length_nil, List.getElem?_toArray, List.toList_toArray, Value.cells, List.all_cons, List.all_nil, List.take_succ_cons, List.take_zero, List.drop_succ_cons, List.drop_zero, List.cons_append, List.set_cons_succ, List.set_cons_zero, List.length_append, List.length_set, List.getElem?_cons_succ, List.getElem?_cons_zero, List.take_nil, List.drop_nil, Nat.le_refl, true_and, and_true, Bool.false_eq_true, false_implies, true_implies, forall_const, beq_self_eq_true, Option.map_some, Option.bind_some, Nat.add_zero, Nat.zero_add, List.append_nil, List.nil_append, Nat.reduceSub, und31]; rfl) ?_; simp only [und31, cond_true, cond_false]))
  refine aw_loop (fun m s => ∃ k : Nat, k ≤ l.length ∧ m = l.length - k ∧ s.tm.get 0 = some (.slice a l.length cap) ∧ s.tm.get 9 = some (.slice a l.length cap) ∧ s.tm.get 10 = some (.int .i64 l.length) ∧ s.tm.get 11 = some (.int .i64 k) ∧
    s.tm.get 3 = some (.int .i64 (most l (l.take k))) ∧ Ext H s.H) l.length ⟨0, by omega, by omega, ?_⟩ ?_
  · simp [Tr.get_put, most, Ext.refl]
  rintro m ⟨tm, H1⟩ ⟨k, hk, rfl, t0, t9, t10, t11, t3, hE⟩
  simp only at t0 t9 t10 t11 t3 hE
  by_cases hlt : k < l.length
  · have hlt' : decide ((k : Int) < (l.length : Int)) = true := by simp [hlt]
    have hltn : decide (k < l.length) = true := by simp [hlt]
    obtain ⟨b, off, ob, rfl, hb, hob, hcl⟩ := SlAt.take IV.cells 3 (by omega) (fun _ => rfl) (hA.ext hE) k hlt
    have hbn : ¬ b = H1.n := by omega
    have hdec : decide (b = H1.n) = false := by simp [hbn]
    simp only [IV.cells] at hcl
    repeat (first
      | with_reducible refine aw_seq' ?_
      | with_reducible refine then_normal ?_
      | with_reducible refine kt ?_
      | (with_reducible refine aops_nil (hK _ ?_); clear hK K)
      | (with_reducible refine aopsC_nil (hK _ ?_); clear hK K)
      | (with_reducible refine aops_cons ?_; simp only [AStep, AStepC, APut, awanted, aop, aeval, aevals, aevalo, aevalp, acall, aappend, asrc, isIntD, blockOf, amakeSlice, abuild, abuildSlice, places, Instr.fill, zerosOf, results1, aresults, isLoad, veq, veqs, veq0, acall, dput, val, val2, skp, orVal, abin, aslice, afield, aindexAddr, aindex, aload, astore, aput, splice, apart, isRow, closed, plain, one, isShift, ibin, cond_true, cond_false, Tr.get_put, Heap.get_put, Heap.get_push, Heap.n_push, Heap.n_put, Option.getD_some, blt_dec, ble_dec, beq_dec, Nat.reduceLT, Nat.reduceLeDiff, Nat.reduceAdd, Nat.reduceMul, decide_true, decide_false, Nat.reduceEqDiff, if_true, if_false, BEq.refl, reduceIte, Bool.and_true, Bool.true_and, Bool.and_self, Bool.not_true, Bool.not_false, List.size_toArray, List.length_cons, List.length_nil, List.getElem?_toArray, List.toList_toArray, Value.cells, List.all_cons, List.all_nil, List.take_succ_cons, List.take_zero, List.drop_succ_cons, List.drop_zero, List.cons_append, List.set_cons_succ, List.set_cons_zero, List.length_append, List.length_set, List.getElem?_cons_succ, List.getElem?_cons_zero, List.take_nil, List.drop_nil, Nat.le_refl, true_and, and_true, Bool.false_eq_true, false_implies, true_implies, forall_const, beq_self_eq_true, Option.map_some, Option.bind_some, Nat.add_zero, Nat.zero_add, List.append_nil, List.nil_append, Nat.reduceSub, und31, und40, und3, size40, size3, zero40, t0, t9, t10, t11, t3, hlt', hltn, hob, hcl, hbn, hdec])
      | (with_reducible refine aopsC_cons ?_; simp only [AStep, AStepC, APut, awanted, aop, aeval, aevals, aevalo, aevalp, acall, aappend, asrc, isIntD, blockOf, amakeSlice, abuild, abuildSlice, places, Instr.fill, zerosOf, results1, aresults, isLoad, veq, veqs, veq0, acall, dput, val, val2, skp, orVal, abin, aslice, afield, aindexAddr, aindex, aload, astore, aput, splice, apart, isRow, closed, plain, one, isShift, ibin, cond_true, cond_false, Tr.get_put, Heap.get_put, Heap.get_push, Heap.n_push, Heap.n_put, Option.getD_some, blt_dec, ble_dec, beq_dec, Nat.reduceLT, Nat.reduceLeDiff, Nat.reduceAdd, Nat.reduceMul, decide_true, decide_false, Nat.reduceEqDiff, if_true, if_false, BEq.refl, reduceIte, Bool.and_true, Bool.true_and, Bool.and_self, Bool.not_true, Bool.not_false, List.size_toArray, List.length_cons, List.length_nil, List.getElem?_toArray, List.toList_toArray, Value.cells, List.all_cons, List.all_nil, List.take_succ_cons, List.take_zero, List.drop_succ_cons, List.drop_zero, List.cons_append, List.set_cons_succ, List.set_cons_zero, List.length_append, List.length_set, List.getElem?_cons_succ, List.getElem?_cons_zero, List.take_nil, List.drop_nil, Nat.le_refl, true_and, and_true, Bool.false_eq_true, false_implies, true_implies, forall_const, beq_self_eq_true, Option.map_some, Option.bind_some, Nat.add_zero, Nat.zero_add, List.append_nil, List.nil_append, Nat.reduceSub, und31, und40, und3, size40, size3, zero40, t0, t9, t10, t11, t3, hlt', hltn, hob, hcl, hbn, hdec])
      | with_reducible refine aw_region_k fun K hK => ?_
      | refine aw_draw0_k (by kernel_rfl) fun K hK => ?_
      | with_reducible refine aw_drawC_k fun K hK => ?_
      | with_reducible refine aw_block ?_
      | with_reducible refine aw_skip ?_
      | with_reducible refine aw_exit ?_
      | with_reducible refine aw_ret ?_
      | with_reducible refine blk_normal ?_
      | with_reducible refine blk_hit ?_
      | (with_reducible refine blk_miss ?_ ?_; rfl)
      | with_reducible refine blk_ret ?_
      | with_reducible refine then_exit ?_
      | with_reducible refine then_ret ?_
      | (refine acall_orc rfl ?_; simp only [AStep, AStepC, APut, awanted, aop, aeval, aevals, aevalo, aevalp, acall, aappend, asrc, isIntD, blockOf, amakeSlice, abuild, abuildSlice, places, Instr.fill, zerosOf, results1, aresults, isLoad, veq, veqs, veq0, acall, dput, val, val2, skp, orVal, abin, aslice, afield, aindexAddr, aindex, aload, astore, aput, splice, apart, isRow, closed, plain, one, isShift, ibin, cond_true, cond_false, Tr.get_put, Heap.get_put, Heap.get_push, Heap.n_push, Heap.n_put, Option.getD_some, blt_dec, ble_dec, beq_dec, Nat.reduceLT, Nat.reduceLeDiff, Nat.reduceAdd, Nat.reduceMul, decide_true, decide_false, Nat.reduceEqDiff, if_true, if_false, BEq.refl, reduceIte, Bool.and_true, Bool.true_and, Bool.and_self, Bool.not_true, Bool.not_false, List.size_toArray, List.length_cons, List.length_nil, List.getElem?_toArray, List.toList_toArray, Value.cells, List.all_cons, List.all_nil, List.take_succ_cons, List.take_zero, List.drop_succ_cons, List.drop_zero, List.cons_append, List.set_cons_succ, List.set_cons_zero, List.length_append, List.length_set, List.getElem?_cons_succ, List.getElem?_cons_zero, List.take_nil, List.drop_nil, Nat.le_refl, true_and, and_true, Bool.false_eq_true, false_implies, true_implies, forall_const, beq_self_eq_true, Option.map_some, Option.bind_some, Nat.add_zero, Nat.zero_add, List.append_nil, List.nil_append, Nat.reduceSub, und31, und40, und3, size40, size3, zero40, t0, t9, t10, t11, t3, hlt', hltn, hob, hcl, hbn, hdec])
      | (refine aw_cond (by simp only [AStep, AStepC, APut, awanted, aop, aeval, aevals, aevalo, aevalp, acall, aappend, asrc, isIntD, blockOf, amakeSlice, abuild, abuildSlice, places, Instr.fill, zerosOf, results1, aresults, isLoad, veq, veqs, veq0, acall, dput, val, val2, skp, orVal, abin, aslice, afield, aindexAddr, aindex, aload, astore, aput, splice, apart, isRow, closed, plain, one, isShift, ibin, cond_true, cond_false, Tr.get_put, Heap.get_put, Heap.get_push, Heap.n_push, Heap.n_put, Option.getD_some, blt_dec, ble_dec, beq_dec, Nat.reduceLT, Nat.reduceLeDiff, Nat.reduceAdd, Nat.reduceMul, decide_true, decide_false, Nat.reduceEqDiff, if_true, if_false, BEq.refl, reduceIte, Bool.and_true, Bool.true_and, Bool.and_self, Bool.not_true, Bool.not_false, List.size_toArray, List.length_cons, List.length_nil, List.getElem?_toArray, List.toList_toArray, Value.cells, List.all_cons, List.all_nil, List.take_succ_cons, List.take_zero, List.drop_succ_cons, List.drop_zero, List.cons_append, List.set_cons_succ, List.set_cons_zero, List.length_append, List.length_set, List.getElem?_cons_succ, List.getElem?_cons_zero, List.take_nil, List.drop_nil, Nat.le_refl, true_and, and_true, Bool.false_eq_true, false_implies, true_implies, forall_const, beq_self_eq_true, Option.map_some, Option.bind_some, Nat.add_zero, Nat.zero_add, List.append_nil, List.nil_append, Nat.reduceSub, und31, und40, und3, size40, size3, zero40, t0, t9, t10, t11, t3, hlt', hltn, hob, hcl, hbn, hdec]; rfl) ?_; simp only [und31, und40, und3, size40, size3, zero40, t0, t9, t10, t11, t3, hlt', hltn, hob, hcl, hbn, hdec, cond_true, cond_false]))
    refine aw_loop (fun m s => ∃ j : Nat, j ≤ l.length ∧ m = l.length - j ∧ s.tm.get 0 = some (.slice (some ⟨b, off, none⟩) l.length cap) ∧ s.tm.get 9 = some (.slice (some ⟨b, off, none⟩) l.length cap) ∧ s.tm.get 10 = some (.int .i64 l.length) ∧ s.tm.get 11 = some (.int .i64 k) ∧
      s.tm.get 3 = some (.int .i64 (most l (l.take k))) ∧ s.tm.get 5 = some (.pointer (some ⟨H1.n, 0, none⟩)) ∧ s.tm.get 15 = some (.slice (some ⟨b, off, none⟩) l.length cap) ∧ s.tm.get 16 = some (.int .i64 l.length) ∧ s.tm.get 17 = some (.int .i64 j) ∧ s.tm.get 6 = some (.int .i64 (cnt (l.take j) l[k].f)) ∧
      Ext H1 s.H ∧ H1.n < s.H.n ∧ s.H.get H1.n = some ⟨[.int .i64 l[k].v, .int .i64 l[k].f, .int .i64 l[k].t], 40, false⟩) l.length ⟨0, by omega, by omega, ?_⟩ ?_
    · simp [Tr.get_put, cnt, t0, t9, t10, t11, t3, Heap.get_put, Heap.get_push, Heap.n_push, Heap.n_put]
      exact ((Ext.refl H1).push _).put (Nat.le_refl _) _
    rintro m ⟨tm2, H2⟩ ⟨j, hj, rfl, u0, u9, u10, u11, u3, u5, u15, u16, u17, u6, uE, un, ub⟩
    simp only at u0 u9 u10 u11 u3 u5 u15 u16 u17 u6 uE un ub
    clear t0 t9 t10 t11 t3
    by_cases hjlt : j < l.length
    · have hjlt' : decide ((j : Int) < (l.length : Int)) = true := by simp [hjlt]
      have hjltn : decide (j < l.length) = true := by simp [hjlt]
      obtain ⟨b', off', ob', he, hb', hob', hcl'⟩ := SlAt.take IV.cells 3 (by omega) (fun _ => rfl) (hA.ext (hE.trans uE)) j hjlt
      cases he
      have hbn' : ¬ b = H2.n := by omega
      have hbn2 : ¬ H1.n = H2.n := by omega
      simp only [IV.cells] at hcl'
      have hc1 := cnt_le (l.take j) l[k].f
      have hc2 : (l.take j).length ≤ j := List.length_take_le _ _
      have hwr : IntKind.i64.wrap (cnt (l.take j) l[k].f + 1) = cnt (l.take j) l[k].f + 1 := by rw [IntKind.wrap_i64]; omega
      have hwj : IntKind.i64.wrap ((j : Int) + 1) = ((j + 1 : Nat) : Int) := by rw [IntKind.wrap_i64]; omega
      have hsn : cnt (l.take (j + 1)) l[k].f = cnt (l.take j) l[k].f + if atB l[j].f l[j].t l[k].f = true then 1 else 0 := by
        rw [List.take_succ_eq_append_getElem hjlt]; exact cnt_snoc _ _ _
      cases hat : atB l[j].f l[j].t l[k].f
      all_goals
        repeat (first
          | with_reducible refine aw_seq' ?_
          | with_reducible refine then_normal ?_
          | with_reducible refine kt ?_
          | (with_reducible refine aops_nil (hK _ ?_); clear hK K)
          | (with_reducible refine aopsC_nil (hK _ ?_); clear hK K)
          | (with_reducible refine aops_cons ?_; simp only [AStep, AStepC, APut, awanted, aop, aeval, aevals, aevalo, aevalp, acall, aappend, asrc, isIntD, blockOf, amakeSlice, abuild, abuildSlice, places, Instr.fill, zerosOf, results1, aresults, isLoad, veq, veqs, veq0, acall, dput, val, val2, skp, orVal, abin, aslice, afield, aindexAddr, aindex, aload, astore, aput, splice, apart, isRow, closed, plain, one, isShift, ibin, cond_true, cond_false, Tr.get_put, Heap.get_put, Heap.get_push, Heap.n_push, Heap.n_put, Option.getD_some, blt_dec, ble_dec, beq_dec, Nat.reduceLT, Nat.reduceLeDiff, Nat.reduceAdd, Nat.reduceMul, decide_true, decide_false, Nat.reduceEqDiff, if_true, if_false, BEq.refl, reduceIte, Bool.and_true, Bool.true_and, Bool.and_self, Bool.not_true, Bool.not_false, List.size_toArray, List.length_cons, List.length_nil, List.getElem?_toArray, List.toList_toArray, Value.cells, List.all_cons, List.all_nil, List.take_succ_cons, List.take_zero, List.drop_succ_cons, List.drop_zero, List.cons_append, List.set_cons_succ, List.set_cons_zero, List.length_append, List.length_set, List.getElem?_cons_succ, List.getElem?_cons_zero, List.take_nil, List.drop_nil, Nat.le_refl, true_and, and_true, Bool.false_eq_true, false_implies, true_implies, forall_const, beq_self_eq_true, Option.map_some, Option.bind_some, Nat.add_zero, Nat.zero_add, List.append_nil, List.nil_append, Nat.reduceSub, und31, und40, und3, size40, size3, zero40, u0, u9, u10, u11, u3, u5, u15, u16, u17, u6, ub, hjlt', hjltn, hob', hcl', hbn', hbn2, hwr, hwj, hat])
          | (with_reducible refine aopsC_cons ?_; simp only [AStep, AStepC, APut, awanted, aop, aeval, aevals, aevalo, aevalp, acall, aappend, asrc, isIntD, blockOf, amakeSlice, abuild, abuildSlice, places, Instr.fill, zerosOf, results1, aresults, isLoad, veq, veqs, veq0, acall, dput, val, val2, skp, orVal, abin, aslice, afield, aindexAddr, aindex, aload, astore, aput, splice, apart, isRow, closed, plain, one, isShift, ibin, cond_true, cond_false, Tr.get_put, Heap.get_put, Heap.get_push, Heap.n_push, Heap.n_put, Option.getD_some, blt_dec, ble_dec, beq_dec, Nat.reduceLT, Nat.reduceLeDiff, Nat.reduceAdd, Nat.reduceMul, decide_true, decide_false, Nat.reduceEqDiff, if_true, if_false, BEq.refl, reduceIte, Bool.and_true, Bool.true_and, Bool.and_self, Bool.not_true, Bool.not_false, List.size_toArray, List.length_cons, List.length_nil, List.getElem?_toArray, List.toList_toArray, Value.cells, List.all_cons, List.all_nil, List.take_succ_cons, List.take_zero, List.drop_succ_cons, List.drop_zero, List.cons_append, List.set_cons_succ, List.set_cons_zero, List.length_append, List.length_set, List.getElem?_cons_succ, List.getElem?_cons_zero, List.take_nil, List.drop_nil, Nat.le_refl, true_and, and_true, Bool.false_eq_true, false_implies, true_implies, forall_const, beq_self_eq_true, Option.map_some, Option.bind_some, Nat.add_zero, Nat.zero_add, List.append_nil, List.nil_append, Nat.reduceSub, und31, und40, und3, size40, size3, zero40, u0, u9, u10, u11, u3, u5, u15, u16, u17, u6, ub, hjlt', hjltn, hob', hcl', hbn', hbn2, hwr, hwj, hat])
          | with_reducible refine aw_region_k fun K hK => ?_
          | refine aw_draw0_k (by kernel_rfl) fun K hK => ?_
          | with_reducible refine aw_drawC_k fun K hK => ?_
          | with_reducible refine aw_block ?_
          | with_reducible refine aw_skip ?_
          | with_reducible refine aw_exit ?_
          | with_reducible refine aw_ret ?_
          | with_reducible refine blk_normal ?_
          | with_reducible refine blk_hit ?_
          | (with_reducible refine blk_miss ?_ ?_; rfl)
          | with_reducible refine blk_ret ?_
          | with_reducible refine then_exit ?_
          | with_reducible refine then_ret ?_
          | (refine acall_orc rfl ?_; simp only [AStep, AStepC, APut, awanted, aop, aeval, aevals, aevalo, aevalp, acall, aappend, asrc, isIntD, blockOf, amakeSlice, abuild, abuildSlice, places, Instr.fill, zerosOf, results1, aresults, isLoad, veq, veqs, veq0, acall, dput, val, val2, skp, orVal, abin, aslice, afield, aindexAddr, aindex, aload, astore, aput, splice, apart, isRow, closed, plain, one, isShift, ibin, cond_true, cond_false, Tr.get_put, Heap.get_put, Heap.get_push, Heap.n_push, Heap.n_put, Option.getD_some, blt_dec, ble_dec, beq_dec, Nat.reduceLT, Nat.reduceLeDiff, Nat.reduceAdd, Nat.reduceMul, decide_true, decide_false, Nat.reduceEqDiff, if_true, if_false, BEq.refl, reduceIte, Bool.and_true, Bool.true_and, Bool.and_self, Bool.not_true, Bool.not_false, List.size_toArray, List.length_cons, List.length_nil, List.getElem?_toArray, List.toList_toArray, Value.cells, List.all_cons, List.all_nil, List.take_succ_cons, List.take_zero, List.drop_succ_cons, List.drop_zero, List.cons_append, List.set_cons_succ, List.set_cons_zero, List.length_append, List.length_set, List.getElem?_cons_succ, List.getElem?_cons_zero, List.take_nil, List.drop_nil, Nat.le_refl, true_and, and_true, Bool.false_eq_true, false_implies, true_implies, forall_const, beq_self_eq_true, Option.map_some, Option.bind_some, Nat.add_zero, Nat.zero_add, List.append_nil, List.nil_append, Nat.reduceSub, und31, und40, und3, size40, size3, zero40, u0, u9, u10, u11, u3, u5, u15, u16, u17, u6, ub, hjlt', hjltn, hob', hcl', hbn', hbn2, hwr, hwj, hat])
          | (refine aw_cond (by simp only [AStep, AStepC, APut, awanted, aop, aeval, aevals, aevalo, aevalp, acall, aappend, asrc, isIntD, blockOf, amakeSlice, abuild, abuildSlice, places, Instr.fill, zerosOf, results1, aresults, isLoad, veq, veqs, veq0, acall, dput, val, val2, skp, orVal, abin, aslice, afield, aindexAddr, aindex, aload, astore, aput, splice, apart, isRow, closed, plain, one, isShift, ibin, cond_true, cond_false, Tr.get_put, Heap.get_put, Heap.get_push, Heap.n_push, Heap.n_put, Option.getD_some, blt_dec, ble_dec, beq_dec, Nat.reduceLT, Nat.reduceLeDiff, Nat.reduceAdd, Nat.reduceMul, decide_true, decide_false, Nat.reduceEqDiff, if_true, if_false, BEq.refl, reduceIte, Bool.and_true, Bool.true_and, Bool.and_self, Bool.not_true, Bool.not_false, List.size_toArray, List.length_cons, List.length_nil, List.getElem?_toArray, List.toList_toArray, Value.cells, List.all_cons, List.all_nil, List.take_succ_cons, List.take_zero, List.drop_succ_cons, List.drop_zero, List.cons_append, List.set_cons_succ, List.set_cons_zero, List.length_append, List.length_set, List.getElem?_cons_succ, List.getElem?_cons_zero, List.take_nil, List.drop_nil, Nat.le_refl, true_and, and_true, Bool.false_eq_true, false_implies, true_implies, forall_const, beq_self_eq_true, Option.map_some, Option.bind_some, Nat.add_zero, Nat.zero_add, List.append_nil, List.nil_append, Nat.reduceSub, und31, und40, und3, size40, size3, zero40, u0, u9, u10, u11, u3, u5, u15, u16, u17, u6, ub, hjlt', hjltn, hob', hcl', hbn', hbn2, hwr, hwj, hat]; rfl) ?_; simp only [und31, und40, und3, size40, size3, zero40, u0, u9, u10, u11, u3, u5, u15, u16, u17, u6, ub, hjlt', hjltn, hob', hcl', hbn', hbn2, hwr, hwj, hat, cond_true, cond_false]))
      all_goals
        simp only [AStep, AStepC, APut, awanted, aop, aeval, aevals, aevalo, aevalp, acall, aappend, asrc, isIntD, blockOf, amakeSlice, abuild, abuildSlice, places, Instr.fill, zerosOf, results1, aresults, isLoad, veq, veqs, veq0, acall, dput, val, val2, skp, orVal, abin, aslice, afield, aindexAddr, aindex, aload, astore, aput, splice, apart, isRow, closed, plain, one, isShift, ibin, cond_true, cond_false, Tr.get_put, Heap.get_put, Heap.get_push, Heap.n_push, Heap.n_put, Option.getD_some, blt_dec, ble_dec, beq_dec, Nat.reduceLT, Nat.reduceLeDiff, Nat.reduceAdd, Nat.reduceMul, decide_true, decide_false, Nat.reduceEqDiff, if_true, if_false, BEq.refl, reduceIte, Bool.and_true, Bool.true_and, Bool.and_self, Bool.not_true, Bool.not_false, List.size_toArray, List.length_cons, List.length_nil, List.getElem?_toArray, List.toList_toArray, Value.cells, List.all_cons, List.all_nil, List.take_succ_cons, List.take_zero, List.drop_succ_cons, List.drop_zero, List.cons_append, List.set_cons_succ, List.set_cons_zero, List.length_append, List.length_set, List.getElem?_cons_succ, List.getElem?_cons_zero, List.take_nil, List.drop_nil, Nat.le_refl, true_and, and_true, Bool.false_eq_true, false_implies, true_implies, forall_const, beq_self_eq_true, Option.map_some, Option.bind_some, Nat.add_zero, Nat.zero_add, List.append_nil, List.nil_append, Nat.reduceSub, und31, und40, und3, size40, size3, zero40, u0, u9, u10, u11, u3, u5, u15, u16, u17, u6, ub, hwr, hwj, hbn2]
        refine ⟨l.length - (j + 1), by omega, j + 1, by omega, rfl, rfl, ?_, (uE.push _).put (by omega) _, by omega⟩
        rw [hsn, hat]; simp
    · have hjl : j = l.length := by omega
      subst hjl
      have hjf : decide ((l.length : Int) < (l.length : Int)) = false := by simp
      rw [List.take_length] at u6
      have hwk : IntKind.i64.wrap ((k : Int) + 1) = ((k + 1 : Nat) : Int) := by rw [IntKind.wrap_i64]; omega
      have hms : most l (l.take (k + 1)) = if cnt l l[k].f > most l (l.take k) then cnt l l[k].f else most l (l.take k) := by
        rw [List.take_succ_eq_append_getElem hlt, most_snoc]; split <;> omega
      repeat (first
        | with_reducible refine aw_seq' ?_
        | with_reducible refine then_normal ?_
        | with_reducible refine kt ?_
        | (with_reducible refine aops_nil (hK _ ?_); clear hK K)
        | (with_reducible refine aopsC_nil (hK _ ?_); clear hK K)
        | (with_reducible refine aops_cons ?_; simp only [AStep, AStepC, APut, awanted, aop, aeval, aevals, aevalo, aevalp, acall, aappend, asrc, isIntD, blockOf, amakeSlice, abuild, abuildSlice, places, Instr.fill, zerosOf, results1, aresults, isLoad, veq, veqs, veq0, acall, dput, val, val2, skp, orVal, abin, aslice, afield, aindexAddr, aindex, aload, astore, aput, splice, apart, isRow, closed, plain, one, isShift, ibin, cond_true, cond_false, Tr.get_put, Heap.get_put, Heap.get_push, Heap.n_push, Heap.n_put, Option.getD_some, blt_dec, ble_dec, beq_dec, Nat.reduceLT, Nat.reduceLeDiff, Nat.reduceAdd, Nat.reduceMul, decide_true, decide_false, Nat.reduceEqDiff, if_true, if_false, BEq.refl, reduceIte, Bool.and_true, Bool.true_and, Bool.and_self, Bool.not_true, Bool.not_false, List.size_toArray, List.length_cons, List.length_nil, List.getElem?_toArray, List.toList_toArray, Value.cells, List.all_cons, List.all_nil, List.take_succ_cons, List.take_zero, List.drop_succ_cons, List.drop_zero, List.cons_append, List.set_cons_succ, List.set_cons_zero, List.length_append, List.length_set, List.getElem?_cons_succ, List.getElem?_cons_zero, List.take_nil, List.drop_nil, Nat.le_refl, true_and, and_true, Bool.false_eq_true, false_implies, true_implies, forall_const, beq_self_eq_true, Option.map_some, Option.bind_some, Nat.add_zero, Nat.zero_add, List.append_nil, List.nil_append, Nat.reduceSub, und31, und40, und3, size40, size3, zero40, u0, u9, u10, u11, u3, u5, u15, u16, u17, u6, ub, hjf, hwk])
        | (with_reducible refine aopsC_cons ?_; simp only [AStep, AStepC, APut, awanted, aop, aeval, aevals, aevalo, aevalp, acall, aappend, asrc, isIntD, blockOf, amakeSlice, abuild, abuildSlice, places, Instr.fill, zerosOf, results1, aresults, isLoad, veq, veqs, veq0, acall, dput, val, val2, skp, orVal, abin, aslice, afield, aindexAddr, aindex, aload, astore, aput, splice, apart, isRow, closed, plain, one, isShift, ibin, cond_true, cond_false, Tr.get_put, Heap.get_put, Heap.get_push, Heap.n_push, Heap.n_put, Option.getD_some, blt_dec, ble_dec, beq_dec, Nat.reduceLT, Nat.reduceLeDiff, Nat.reduceAdd, Nat.reduceMul, decide_true, decide_false, Nat.reduceEqDiff, if_true, if_false, BEq.refl, reduceIte, Bool.and_true, Bool.true_and, Bool.and_self, Bool.not_true, Bool.not_false, List.size_toArray, List.length_cons, List.length_nil, List.getElem?_toArray, List.toList_toArray, Value.cells, List.all_cons, List.all_nil, List.take_succ_cons, List.take_zero, List.drop_succ_cons, List.drop_zero, List.cons_append, List.set_cons_succ, List.set_cons_zero, List.length_append, List.length_set, List.getElem?_cons_succ, List.getElem?_cons_zero, List.take_nil, List.drop_nil, Nat.le_refl, true_and, and_true, Bool.false_eq_true, false_implies, true_implies, forall_const, beq_self_eq_true, Option.map_some, Option.bind_some, Nat.add_zero, Nat.zero_add, List.append_nil, List.nil_append, Nat.reduceSub, und31, und40, und3, size40, size3, zero40, u0, u9, u10, u11, u3, u5, u15, u16, u17, u6, ub, hjf, hwk])
        | with_reducible refine aw_region_k fun K hK => ?_
        | refine aw_draw0_k (by kernel_rfl) fun K hK => ?_
        | with_reducible refine aw_drawC_k fun K hK => ?_
        | with_reducible refine aw_block ?_
        | with_reducible refine aw_skip ?_
        | with_reducible refine aw_exit ?_
        | with_reducible refine aw_ret ?_
        | with_reducible refine blk_normal ?_
        | with_reducible refine blk_hit ?_
        | (with_reducible refine blk_miss ?_ ?_; rfl)
        | with_reducible refine blk_ret ?_
        | with_reducible refine then_exit ?_
        | with_reducible refine then_ret ?_
        | (refine acall_orc rfl ?_; simp only [AStep, AStepC, APut, awanted, aop, aeval, aevals, aevalo, aevalp, acall, aappend, asrc, isIntD, blockOf, amakeSlice, abuild, abuildSlice, places, Instr.fill, zerosOf, results1, aresults, isLoad, veq, veqs, veq0, acall, dput, val, val2, skp, orVal, abin, aslice, afield, aindexAddr, aindex, aload, astore, aput, splice, apart, isRow, closed, plain, one, isShift, ibin, cond_true, cond_false, Tr.get_put, Heap.get_put, Heap.get_push, Heap.n_push, Heap.n_put, Option.getD_some, blt_dec, ble_dec, beq_dec, Nat.reduceLT, Nat.reduceLeDiff, Nat.reduceAdd, Nat.reduceMul, decide_true, decide_false, Nat.reduceEqDiff, if_true, if_false, BEq.refl, reduceIte, Bool.and_true, Bool.true_and, Bool.and_self, Bool.not_true, Bool.not_false, List.size_toArray, List.length_cons, List.length_nil, List.getElem?_toArray, List.toList_toArray, Value.cells, List.all_cons, List.all_nil, List.take_succ_cons, List.take_zero, List.drop_succ_cons, List.drop_zero, List.cons_append, List.set_cons_succ, List.set_cons_zero, List.length_append, List.length_set, List.getElem?_cons_succ, List.getElem?_cons_zero, List.take_nil, List.drop_nil, Nat.le_refl, true_and, and_true, Bool.false_eq_true, false_implies, true_implies, forall_const, beq_self_eq_true, Option.map_some, Option.bind_some, Nat.add_zero, Nat.zero_add, List.append_nil, List.nil_append, Nat.reduceSub, und31, und40, und3, size40, size3, zero40, u0, u9, u10, u11, u3, u5, u15, u16, u17, u6, ub, hjf, hwk])
        | (refine aw_cond (by simp only [AStep, AStepC, APut, awanted, aop, aeval, aevals, aevalo, aevalp, acall, aappend, asrc, isIntD, blockOf, amakeSlice, abuild, abuildSlice, places, Instr.fill, zerosOf, results1, aresults, isLoad, veq, veqs, veq0, acall, dput, val, val2, skp, orVal, abin, aslice, afield, aindexAddr, aindex, aload, astore, aput, splice, apart, isRow, closed, plain, one, isShift, ibin, cond_true, cond_false, Tr.get_put, Heap.get_put, Heap.get_push, Heap.n_push, Heap.n_put, Option.getD_some, blt_dec, ble_dec, beq_dec, Nat.reduceLT, Nat.reduceLeDiff, Nat.reduceAdd, Nat.reduceMul, decide_true, decide_false, Nat.reduceEqDiff, if_true, if_false, BEq.refl, reduceIte, Bool.and_true, Bool.true_and, Bool.and_self, Bool.not_true, Bool.not_false, List.size_toArray, List.length_cons, List.length_nil, List.getElem?_toArray, List.toList_toArray, Value.cells, List.all_cons, List.all_nil, List.take_succ_cons, List.take_zero, List.drop_succ_cons, List.drop_zero, List.cons_append, List.set_cons_succ, List.set_cons_zero, List.length_append, List.length_set, List.getElem?_cons_succ, List.getElem?_cons_zero, List.take_nil, List.drop_nil, Nat.le_refl, true_and, and_true, Bool.false_eq_true, false_implies, true_implies, forall_const, beq_self_eq_true, Option.map_some, Option.bind_some, Nat.add_zero, Nat.zero_add, List.append_nil, List.nil_append, Nat.reduceSub, und31, und40, und3, size40, size3, zero40, u0, u9, u10, u11, u3, u5, u15, u16, u17, u6, ub, hjf, hwk]; rfl) ?_; simp only [und31, und40, und3, size40, size3, zero40, u0, u9, u10, u11, u3, u5, u15, u16, u17, u6, ub, hjf, hwk, cond_true, cond_false]))
      simp only [AStep, AStepC, APut, awanted, aop, aeval, aevals, aevalo, aevalp, acall, aappend, asrc, isIntD, blockOf, amakeSlice, abuild, abuildSlice, places, Instr.fill, zerosOf, results1, aresults, isLoad, veq, veqs, veq0, acall, dput, val, val2, skp, orVal, abin, aslice, afield, aindexAddr, aindex, aload, astore, aput, splice, apart, isRow, closed, plain, one, isShift, ibin, cond_true, cond_false, Tr.get_put, Heap.get_put, Heap.get_push, Heap.n_push, Heap.n_put, Option.getD_some, blt_dec, ble_dec, beq_dec, Nat.reduceLT, Nat.reduceLeDiff, Nat.reduceAdd, Nat.reduceMul, decide_true, decide_false, Nat.reduceEqDiff, if_true, if_false, BEq.refl, reduceIte, Bool.and_true, Bool.true_and, Bool.and_self, Bool.not_true, Bool.not_false, List.size_toArray, List.length_cons, List.length_nil, List.getElem?_toArray, List.toList_toArray, Value.cells, List.all_cons, List.all_nil, List.take_succ_cons, List.take_zero, List.drop_succ_cons, List.drop_zero, List.cons_append, List.set_cons_succ, List.set_cons_zero, List.length_append, List.length_set, List.getElem?_cons_succ, List.getElem?_cons_zero, List.take_nil, List.drop_nil, Nat.le_refl, true_and, and_true, Bool.false_eq_true, false_implies, true_implies, forall_const, beq_self_eq_true, Option.map_some, Option.bind_some, Nat.add_zero, Nat.zero_add, List.append_nil, List.nil_append, Nat.reduceSub, u0, u9, u10, u11, u3, u5, u15, u16, u17, u6, hwk]
      refine ⟨l.length - (k + 1), by omega, k + 1, by omega, rfl, rfl, by rw [hms], hE.trans uE⟩
  · have hkl : k = l.length := by omega
    subst hkl
    have hkf : decide ((l.length : Int) < (l.length : Int)) = false := by simp
    rw [List.take_length] at t3
    repeat (first
      | with_reducible refine aw_seq' ?_
      | with_reducible refine then_normal ?_
      | with_reducible refine kt ?_
      | (with_reducible refine aops_nil (hK _ ?_); clear hK K)
      | (with_reducible refine aopsC_nil (hK _ ?_); clear hK K)
      | (with_reducible refine aops_cons ?_; simp only [AStep, AStepC, APut, awanted, aop, aeval, aevals, aevalo, aevalp, acall, aappend, asrc, isIntD, blockOf, amakeSlice, abuild, abuildSlice, places, Instr.fill, zerosOf, results1, aresults, isLoad, veq, veqs, veq0, acall, dput, val, val2, skp, orVal, abin, aslice, afield, aindexAddr, aindex, aload, astore, aput, splice, apart, isRow, closed, plain, one, isShift, ibin, cond_true, cond_false, Tr.get_put, Heap.get_put, Heap.get_push, Heap.n_push, Heap.n_put, Option.getD_some, blt_dec, ble_dec, beq_dec, Nat.reduceLT, Nat.reduceLeDiff, Nat.reduceAdd, Nat.reduceMul, decide_true, decide_false, Nat.reduceEqDiff, if_true, if_false, BEq.refl, reduceIte, Bool.and_true, Bool.true_and, Bool.and_self, Bool.not_true, Bool.not_false, List.size_toArray, List.length_cons, List.length_nil, List.getElem?_toArray, List.toList_toArray, Value.cells, List.all_cons, List.all_nil, List.take_succ_cons, List.take_zero, List.drop_succ_cons, List.drop_zero, List.cons_append, List.set_cons_succ, List.set_cons_zero, List.length_append, List.length_set, List.getElem?_cons_succ, List.getElem?_cons_zero, List.take_nil, List.drop_nil, Nat.le_refl, true_and, and_true, Bool.false_eq_true, false_implies, true_implies, forall_const, beq_self_eq_true, Option.map_some, Option.bind_some, Nat.add_zero, Nat.zero_add, List.append_nil, List.nil_append, Nat.reduceSub, und31, und40, und3, size40, size3, zero40, t0, t9, t10, t11, t3, hkf])
      | (with_reducible refine aopsC_cons ?_; simp only [AStep, AStepC, APut, awanted, aop, aeval, aevals, aevalo, aevalp, acall, aappend, asrc, isIntD, blockOf, amakeSlice, abuild, abuildSlice, places, Instr.fill, zerosOf, results1, aresults, isLoad, veq, veqs, veq0, acall, dput, val, val2, skp, orVal, abin, aslice, afield, aindexAddr, aindex, aload, astore, aput, splice, apart, isRow, closed, plain, one, isShift, ibin, cond_true, cond_false, Tr.get_put, Heap.get_put, Heap.get_push, Heap.n_push, Heap.n_put, Option.getD_some, blt_dec, ble_dec, beq_dec, Nat.reduceLT, Nat.reduceLeDiff, Nat.reduceAdd, Nat.reduceMul, decide_true, decide_false, Nat.reduceEqDiff, if_true, if_false, BEq.refl, reduceIte, Bool.and_true, Bool.true_and, Bool.and_self, Bool.not_true, Bool.not_false, List.size_toArray, List.length_cons, List.length_nil, List.getElem?_toArray, List.toList_toArray, Value.cells, List.all_cons, List.all_nil, List.take_succ_cons, List.take_zero, List.drop_succ_cons, List.drop_zero, List.cons_append, List.set_cons_succ, List.set_cons_zero, List.length_append, List.length_set, List.getElem?_cons_succ, List.getElem?_cons_zero, List.take_nil, List.drop_nil, Nat.le_refl, true_and, and_true, Bool.false_eq_true, false_implies, true_implies, forall_const, beq_self_eq_true, Option.map_some, Option.bind_some, Nat.add_zero, Nat.zero_add, List.append_nil, List.nil_append, Nat.reduceSub, und31, und40, und3, size40, size3, zero40, t0, t9, t10, t11, t3, hkf])
      | with_reducible refine aw_region_k fun K hK => ?_
      | refine aw_draw0_k (by kernel_rfl) fun K hK => ?_
      | with_reducible refine aw_drawC_k fun K hK => ?_
      | with_reducible refine aw_block ?_
      | with_reducible refine aw_skip ?_
      | with_reducible refine aw_exit ?_
      | with_reducible refine aw_ret ?_
      | with_reducible refine blk_normal ?_
      | with_reducible refine blk_hit ?_
      | (with_reducible refine blk_miss ?_ ?_; rfl)
      | with_reducible refine blk_ret ?_
      | with_reducible refine then_exit ?_
      | with_reducible refine then_ret ?_
      | (refine acall_orc rfl ?_; simp only [AStep, AStepC, APut, awanted, aop, aeval, aevals, aevalo, aevalp, acall, aappend, asrc, isIntD, blockOf, amakeSlice, abuild, abuildSlice, places, Instr.fill, zerosOf, results1, aresults, isLoad, veq, veqs, veq0, acall, dput, val, val2, skp, orVal, abin, aslice, afield, aindexAddr, aindex, aload, astore, aput, splice, apart, isRow, closed, plain, one, isShift, ibin, cond_true, cond_false, Tr.get_put, Heap.get_put, Heap.get_push, Heap.n_push, Heap.n_put, Option.getD_some, blt_dec, ble_dec, beq_dec, Nat.reduceLT, Nat.reduceLeDiff, Nat.reduceAdd, Nat.reduceMul, decide_true, decide_false, Nat.reduceEqDiff, if_true, if_false, BEq.refl, reduceIte, Bool.and_true, Bool.true_and, Bool.and_self, Bool.not_true, Bool.not_false, List.size_toArray, List.length_cons, List.length_nil, List.getElem?_toArray, List.toList_toArray, Value.cells, List.all_cons, List.all_nil, List.take_succ_cons, List.take_zero, List.drop_succ_cons, List.drop_zero, List.cons_append, List.set_cons_succ, List.set_cons_zero, List.length_append, List.length_set, List.getElem?_cons_succ, List.getElem?_cons_zero, List.take_nil, List.drop_nil, Nat.le_refl, true_and, and_true, Bool.false_eq_true, false_implies, true_implies, forall_const, beq_self_eq_true, Option.map_some, Option.bind_some, Nat.add_zero, Nat.zero_add, List.append_nil, List.nil_append, Nat.reduceSub, und31, und40, und3, size40, size3, zero40, t0, t9, t10, t11, t3, hkf])
      | (refine aw_cond (by simp only [AStep, AStepC, APut, awanted, aop, aeval, aevals, aevalo, aevalp, acall, aappend, asrc, isIntD, blockOf, amakeSlice, abuild, abuildSlice, places, Instr.fill, zerosOf, results1, aresults, isLoad, veq, veqs, veq0, acall, dput, val, val2, skp, orVal, abin, aslice, afield, aindexAddr, aindex, aload, astore, aput, splice, apart, isRow, closed, plain, one, isShift, ibin, cond_true, cond_false, Tr.get_put, Heap.get_put, Heap.get_push, Heap.n_push, Heap.n_put, Option.getD_some, blt_dec, ble_dec, beq_dec, Nat.reduceLT, Nat.reduceLeDiff, Nat.reduceAdd, Nat.reduceMul, decide_true, decide_false, Nat.reduceEqDiff, if_true, if_false, BEq.refl, reduceIte, Bool.and_true, Bool.true_and, Bool.and_self, Bool.not_true, Bool.not_false, List.size_toArray, List.length_cons, List.length_nil, List.getElem?_toArray, List.toList_toArray, Value.cells, List.all_cons, List.all_nil, List.take_succ_cons, List.take_zero, List.drop_succ_cons, List.drop_zero, List.cons_append, List.set_cons_succ, List.set_cons_zero, List.length_append, List.length_set, List.getElem?_cons_succ, List.getElem?_cons_zero, List.take_nil, List.drop_nil, Nat.le_refl, true_and, and_true, Bool.false_eq_true, false_implies, true_implies, forall_const, beq_self_eq_true, Option.map_some, Option.bind_some, Nat.add_zero, Nat.zero_add, List.append_nil, List.nil_append, Nat.reduceSub, und31, und40, und3, size40, size3, zero40, t0, t9, t10, t11, t3, hkf]; rfl) ?_; simp only [und31, und40, und3, size40, size3, zero40, t0, t9, t10, t11, t3, hkf, cond_true, cond_false]))
    refine bodyQ_ret ?_
    refine ⟨_, by simp only [aresults, results1, AStep, AStepC, APut, awanted, aop, aeval, aevals, aevalo, aevalp, acall, aappend, asrc, isIntD, blockOf, amakeSlice, abuild, abuildSlice, places, Instr.fill, zerosOf, results1, aresults, isLoad, veq, veqs, veq0, acall, dput, val, val2, skp, orVal, abin, aslice, afield, aindexAddr, aindex, aload, astore, aput, splice, apart, isRow, closed, plain, one, isShift, ibin, cond_true, cond_false, Tr.get_put, Heap.get_put, Heap.get_push, Heap.n_push, Heap.n_put, Option.getD_some, blt_dec, ble_dec, beq_dec, Nat.reduceLT, Nat.reduceLeDiff, Nat.reduceAdd, Nat.reduceMul, decide_true, decide_false, Nat.reduceEqDiff, if_true, if_false, BEq.refl, reduceIte, Bool.and_true, Bool.true_and, Bool.and_self, Bool.not_true, Bool.not_false, List.size_toArray, List.length_cons, List.length_nil, List.getElem?_toArray, List.toList_toArray, Value.cells, List.all_cons, List.all_nil, List.take_succ_cons, List.take_zero, List.drop_succ_cons, List.drop_zero, List.cons_append, List.set_cons_succ, List.set_cons_zero, List.length_append, List.length_set, List.getElem?_cons_succ, List.getElem?_cons_zero, List.take_nil, List.drop_nil, Nat.le_refl, true_and, and_true, Bool.false_eq_true, false_implies, true_implies, forall_const, beq_self_eq_true, Option.map_some, Option.bind_some, Nat.add_zero, Nat.zero_add, List.append_nil, List.nil_append, Nat.reduceSub, t3], rfl, hE⟩
end Go.Proofs.Ytahikechkggbfaa
