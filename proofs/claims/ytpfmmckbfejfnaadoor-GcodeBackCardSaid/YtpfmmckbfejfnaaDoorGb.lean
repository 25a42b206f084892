/- Chapter 2: Right, Within, the instructions that are drawn. -/
import Derived.Test.YtpfmmckbfejfnaaDoorGa
import Derived.WalkKit
import Derived.Lib.Hide
import Derived.RegionTactic
namespace Go.Proofs.YtpfmmckbfejfnaaDoor
open Go Go.Ev Go.RowKit
set_option linter.unusedVariables false
set_option linter.unusedSimpArgs false
set_option maxRecDepth 100000
namespace Gc
theorem ret_one {k : IntKind} {a b : Int} (h : a = b) : Ending.returned (.int k a) = .returned (.int k b) := by rw [h]
theorem tmod_emod (n m : Int) (hm : 0 < m) : n.tmod m = if 0 ≤ n then n % m else if n % m = 0 then 0 else n % m - m := by
  split
  · rename_i h; exact Int.tmod_eq_emod_of_nonneg h
  · rename_i h
    have h1 : n.tmod m = - ((-n) % m) := by
      have := Int.neg_tmod (-n) m
      rw [Int.neg_neg] at this
      rw [this, Int.tmod_eq_emod_of_nonneg (by omega)]
    have h2 : (-n) % m = if n % m = 0 then 0 else m - n % m := by
      have hd := Int.mul_ediv_add_emod n m
      have hp := Int.emod_nonneg n (by omega : m ≠ 0)
      have hq := Int.emod_lt_of_pos n hm
      split
      · rename_i h0
        have : m ∣ n := Int.dvd_of_emod_eq_zero h0
        exact Int.emod_eq_zero_of_dvd (Int.dvd_neg.2 this)
      · rename_i h0
        have e : -n = (m - n % m) + m * (-(n / m) - 1) := by
          rw [Int.mul_sub, Int.mul_neg, Int.mul_one]; omega
        rw [e, Int.add_mul_emod_self_left]
        exact Int.emod_eq_of_lt (by omega) (by omega)
    rw [h1, h2]; split <;> omega
set_option maxHeartbeats 400000 in
theorem within_any (n lo hi : Int) (w : World) (h0 : -9223372036854775808 ≤ n) (h1 : n ≤ 9223372036854775807) (h2 : 0 ≤ lo) (h3 : lo ≤ hi) (h4 : hi ≤ 1099511627776) :
    Calls Tryd.prog 26 #[.int .i64 n, .int .i64 lo, .int .i64 hi] w fun e w' => e = .returned (.int .i64 (lo + n % (hi - lo + 1))) ∧ w = w' := by
  have ht := tmod_emod n (hi - lo + 1) (by omega)
  have hp := Int.emod_nonneg n (by omega : hi - lo + 1 ≠ 0)
  have hq := Int.emod_lt_of_pos n (by omega : 0 < hi - lo + 1)
  generalize n % (hi - lo + 1) = r at *
  have b1 : -(hi - lo + 1) < n.tmod (hi - lo + 1) := by rw [ht]; split <;> (try split) <;> omega
  have b2 : n.tmod (hi - lo + 1) < hi - lo + 1 := by rw [ht]; split <;> (try split) <;> omega
  have Ht := Lib.hid ht
  clear ht
  go_enter Tryd.func26, Tryd.ntmps26
  go_wp2
  all_goals
    go_ret
    refine ⟨ret_one ?_, rfl⟩
    have := Ht.out
    revert this
    split <;> (try split) <;> intro this <;> omega

def inB (n lo hi : Int) : Bool := decide (-9223372036854775808 ≤ n) && decide (n ≤ 9223372036854775807) && decide (0 ≤ lo) && decide (lo ≤ hi) && decide (hi ≤ 1099511627776)
def sp26 : List Value → Option Value
  | [.int .i64 n, .int .i64 lo, .int .i64 hi] => bif inB n lo hi then some (.int .i64 (lo + n % (hi - lo + 1))) else none
  | _ => none
theorem quiet_eq {w w' : World} {e : Ending} {v : Value} (h : e = .returned v ∧ w = w') : e = .returned v ∧ Quiet w w' := ⟨h.1, by rw [← h.2]; exact Quiet.refl _⟩
noncomputable def T12 : Tab := { T11 with orc := addOrc T11.orc 26 sp26 }
theorem progOk12 [Bs] : ProgOk Tryd.prog T12 := progOk11.add 26 sp26 fun args v h => by
  unfold sp26 at h
  split at h
  · rename_i n lo hi
    cases hb : inB n lo hi
    · rw [hb] at h; cases h
    · rw [hb] at h
      cases h
      unfold inB at hb
      simp only [Bool.and_eq_true, decide_eq_true_eq] at hb
      obtain ⟨⟨⟨⟨h1, h2⟩, h3⟩, h4⟩, h5⟩ := hb
      exact ⟨rfl, rfl, fun w _ => (within_any n lo hi w h1 h2 h3 h4 h5).mono fun _ _ => quiet_eq⟩
  · cases h
theorem orc26 (n lo hi : Int) (h : inB n lo hi = true) : sp26 [.int .i64 n, .int .i64 lo, .int .i64 hi] = some (.int .i64 (lo + n % (hi - lo + 1))) := by
  simp only [sp26, h, cond_true]
def rightV (op N : Int) : Bool := bif sizeV op == 0 then false else bif sizeV op == 1 then N == 0 else bif sizeV op == 2 then decide (N ≤ 255) else true
theorem sizeT_in : sizeT.all (fun k => k == 0 || k == 1 || k == 2 || k == 5) = true := by kernel_rfl
theorem sizeV_in (op : Int) : sizeV op = 0 ∨ sizeV op = 1 ∨ sizeV op = 2 ∨ sizeV op = 5 := by
  unfold sizeV
  cases h : inT op
  · exact .inl rfl
  · simp only [cond_true, List.getD_eq_getElem?_getD]
    cases hk : sizeT[op.toNat]? with
    | none => exact .inl rfl
    | some k =>
      have := List.all_eq_true.1 sizeT_in k (List.mem_of_getElem? hk)
      simp only [Bool.or_eq_true, beq_iff_eq] at this
      simp only [Option.getD_some]
      omega
noncomputable def f19b : Code := Tryd.f19.body.getD .skip
noncomputable def f19ba : Code := cl f19b
noncomputable def f19bao : Array Oper := opsOf f19ba
noncomputable def f19bc : Code := cr f19b
noncomputable def f19bca : Code := cl f19bc
noncomputable def f19bcaa : Code := cl f19bca
noncomputable def f19bcaao : Array Oper := opsOf f19bcaa
noncomputable def f19bcac : Code := cr f19bca
noncomputable def f19bcaca : Code := cl f19bcac
noncomputable def f19bcacaa : Code := cl f19bcaca
noncomputable def f19bcacaao : Array Oper := opsOf f19bcacaa
noncomputable def f19bcacac : Code := cr f19bcaca
noncomputable def f19bcacaca : Code := cl f19bcacac
noncomputable def f19bcacacaa : Code := cl f19bcacaca
noncomputable def f19bcacacaao : Array Oper := opsOf f19bcacacaa
noncomputable def f19bcacacc : Code := cr f19bcacac
noncomputable def f19bcacacca : Code := cl f19bcacacc
noncomputable def f19bcacaccao : Array Oper := opsOf f19bcacacca
noncomputable def f19bcacaccc : Code := cr f19bcacacc
noncomputable def f19bcacaccca : Code := cl f19bcacaccc
noncomputable def f19bcacacccaa : Code := cl f19bcacaccca
noncomputable def f19bcacacccaao : Array Oper := opsOf f19bcacacccaa
noncomputable def f19bcacacccc : Code := cr f19bcacaccc
noncomputable def f19bcacacccca : Code := cl f19bcacacccc
noncomputable def f19bcacaccccao : Array Oper := opsOf f19bcacacccca
noncomputable def f19bcacaccccc : Code := cr f19bcacacccc
noncomputable def f19bcacaccccca : Code := cl f19bcacaccccc
noncomputable def f19bcacacccccaa : Code := cl f19bcacaccccca
noncomputable def f19bcacacccccaao : Array Oper := opsOf f19bcacacccccaa
noncomputable def f19bcc : Code := cr f19bc
noncomputable def f19bcca : Code := cl f19bcc
noncomputable def f19bccao : Array Oper := opsOf f19bcca
theorem f19ba_eq : f19ba = .region 0 f19bao false := by kernel_rfl
theorem f19bcaa_eq : f19bcaa = .region 1 f19bcaao false := by kernel_rfl
theorem f19bcacaa_eq : f19bcacaa = .region 2 f19bcacaao false := by kernel_rfl
theorem f19bcacacaa_eq : f19bcacacaa = .region 3 f19bcacacaao false := by kernel_rfl
theorem f19bcacaca_eq : f19bcacaca = .seq f19bcacacaa .ret := by kernel_rfl
theorem f19bcacacca_eq : f19bcacacca = .region 4 f19bcacaccao false := by kernel_rfl
theorem f19bcacacccaa_eq : f19bcacacccaa = .region 5 f19bcacacccaao false := by kernel_rfl
theorem f19bcacaccca_eq : f19bcacaccca = .seq f19bcacacccaa .ret := by kernel_rfl
theorem f19bcacacccca_eq : f19bcacacccca = .region 6 f19bcacaccccao false := by kernel_rfl
theorem f19bcacacccccaa_eq : f19bcacacccccaa = .region 7 f19bcacacccccaao false := by kernel_rfl
theorem f19bcacaccccca_eq : f19bcacaccccca = .seq f19bcacacccccaa .ret := by kernel_rfl
theorem f19bcacaccccc_eq : f19bcacaccccc = .cond (cop f19bcacaccccc) f19bcacaccccca .skip := by kernel_rfl
theorem f19bcacacccc_eq : f19bcacacccc = .seq f19bcacacccca f19bcacaccccc := by kernel_rfl
theorem f19bcacaccc_eq : f19bcacaccc = .cond (cop f19bcacaccc) f19bcacaccca f19bcacacccc := by kernel_rfl
theorem f19bcacacc_eq : f19bcacacc = .seq f19bcacacca f19bcacaccc := by kernel_rfl
theorem f19bcacac_eq : f19bcacac = .cond (cop f19bcacac) f19bcacaca f19bcacacc := by kernel_rfl
theorem f19bcaca_eq : f19bcaca = .seq f19bcacaa f19bcacac := by kernel_rfl
theorem f19bcac_eq : f19bcac = .block 0 f19bcaca := by kernel_rfl
theorem f19bca_eq : f19bca = .seq f19bcaa f19bcac := by kernel_rfl
theorem f19bcca_eq : f19bcca = .region 8 f19bccao false := by kernel_rfl
theorem f19bcc_eq : f19bcc = .seq f19bcca .ret := by kernel_rfl
theorem f19bc_eq : f19bc = .seq f19bca f19bcc := by kernel_rfl
theorem f19b_eq : f19b = .seq f19ba f19bc := by kernel_rfl
theorem f19_body : Tryd.f19.body = some f19b := by kernel_rfl
theorem f19_fn : T12.fn 19 = some Tryd.f19 := by kernel_rfl
theorem f19_any (op N : Int) : ACall Tryd.prog T12 19 #[.agg #[.int .i64 op, .int .u32 N]] ⟨.lf, 0⟩ fun r _ => r = .bool (rightV op N) := by
  refine acall_of' 18 (initTm 0 #[.agg #[.int .i64 op, .int .u32 N]]) rfl f19_fn f19_body rfl rfl ?_
  rw [f19b_eq]
  refine aw_then ?_
  rw [f19ba_eq]
  refine aw_reg ?_
  refine aops_go 2 60 (by kernel_rfl) ?_
  refine aops_end (by kernel_rfl) (then_normal ?_)
  rw [f19bc_eq]
  refine aw_then ?_
  rw [f19bca_eq]
  refine aw_then ?_
  rw [f19bcaa_eq]
  refine aw_reg ?_
  refine aops_go 2 60 (by kernel_rfl) ?_
  refine aops_ask 5 (.int .i64 (sizeV op)) 15 #[.int .i64 op] (by kernel_rfl) (by kernel_rfl) (by kernel_rfl) (by kernel_rfl) rfl ?_
  refine aops_end (by kernel_rfl) (then_normal ?_)
  rw [f19bcac_eq]
  refine aw_block ?_
  rw [f19bcaca_eq]
  refine aw_then ?_
  rw [f19bcacaa_eq]
  refine aw_reg ?_
  refine aops_go 2 60 (by kernel_rfl) ?_
  refine aops_end (by kernel_rfl) (then_normal ?_)
  rw [f19bcacac_eq]
  rcases Bool.eq_false_or_eq_true ((((sizeV op) : Int) == 0)) with hc1 | hc1
  · skip
    refine aw_cond (t := true) (see_bool (by kernel_rfl) hc1) ?_
    rw [f19bcacaca_eq]
    refine aw_then ?_
    rw [f19bcacacaa_eq]
    refine aw_reg ?_
    refine aops_go 1 60 (by kernel_rfl) ?_
    refine aops_end (by kernel_rfl) (then_normal ?_)
    refine aw_ret (blk_ret (then_ret (bodyQ_ret ⟨.bool false, (by kernel_rfl), ?_⟩)))
    congr 1; revert hc1; simp only [rightV]; have hsz := sizeV_in op; rcases hsz with e | e | e | e <;> simp [e] <;> (try omega)
  · skip
    refine aw_cond (t := false) (see_bool (by kernel_rfl) hc1) ?_
    rw [f19bcacacc_eq]
    refine aw_then ?_
    rw [f19bcacacca_eq]
    refine aw_reg ?_
    refine aops_go 2 60 (by kernel_rfl) ?_
    refine aops_end (by kernel_rfl) (then_normal ?_)
    rw [f19bcacaccc_eq]
    rcases Bool.eq_false_or_eq_true ((((sizeV op) : Int) == 1)) with hc2 | hc2
    · skip
      refine aw_cond (t := true) (see_bool (by kernel_rfl) hc2) ?_
      rw [f19bcacaccca_eq]
      refine aw_then ?_
      rw [f19bcacacccaa_eq]
      refine aw_reg ?_
      refine aops_go 4 60 (by kernel_rfl) ?_
      refine aops_end (by kernel_rfl) (then_normal ?_)
      refine aw_ret (blk_ret (then_ret (bodyQ_ret ⟨.bool ((N : Int) == 0), (by kernel_rfl), ?_⟩)))
      congr 1; revert hc1 hc2; simp only [rightV]; have hsz := sizeV_in op; rcases hsz with e | e | e | e <;> simp [e] <;> (try omega)
    · skip
      refine aw_cond (t := false) (see_bool (by kernel_rfl) hc2) ?_
      rw [f19bcacacccc_eq]
      refine aw_then ?_
      rw [f19bcacacccca_eq]
      refine aw_reg ?_
      refine aops_go 2 60 (by kernel_rfl) ?_
      refine aops_end (by kernel_rfl) (then_normal ?_)
      rw [f19bcacaccccc_eq]
      rcases Bool.eq_false_or_eq_true ((((sizeV op) : Int) == 2)) with hc3 | hc3
      · skip
        refine aw_cond (t := true) (see_bool (by kernel_rfl) hc3) ?_
        rw [f19bcacaccccca_eq]
        refine aw_then ?_
        rw [f19bcacacccccaa_eq]
        refine aw_reg ?_
        refine aops_go 4 60 (by kernel_rfl) ?_
        refine aops_end (by kernel_rfl) (then_normal ?_)
        refine aw_ret (blk_ret (then_ret (bodyQ_ret ⟨.bool (decide ((N : Int) ≤ 255)), (by kernel_rfl), ?_⟩)))
        congr 1; revert hc1 hc2 hc3; simp only [rightV]; have hsz := sizeV_in op; rcases hsz with e | e | e | e <;> simp [e] <;> (try omega)
      · skip
        refine aw_cond (t := false) (see_bool (by kernel_rfl) hc3) ?_
        refine aw_skip (blk_normal (then_normal ?_))
        rw [f19bcc_eq]
        refine aw_then ?_
        rw [f19bcca_eq]
        refine aw_reg ?_
        refine aops_go 1 60 (by kernel_rfl) ?_
        refine aops_end (by kernel_rfl) (then_normal ?_)
        refine aw_ret (bodyQ_ret ⟨.bool true, (by kernel_rfl), ?_⟩)
        congr 1; revert hc1 hc2 hc3; simp only [rightV]; have hsz := sizeV_in op; rcases hsz with e | e | e | e <;> simp [e] <;> (try omega)
def sp19 : List Value → Option Value
  | [.agg a] => match a.toList with
    | [.int .i64 op, .int .u32 N] => some (.bool (rightV op N))
    | _ => none
  | _ => none
noncomputable def T13 : Tab := { T12 with orc := addOrc T12.orc 19 sp19 }
theorem progOk13 [Bs] : ProgOk Tryd.prog T13 := progOk12.know 19 sp19 fun args v h => by
  unfold sp19 at h
  split at h
  · rename_i a
    split at h
    · rename_i op N e
      cases h
      have : a = #[.int .i64 op, .int .u32 N] := Array.ext' e
      subst this
      exact ⟨rfl, rfl, f19_any op N⟩
    · cases h
  · cases h
noncomputable def f27b : Code := Tryd.f27.body.getD .skip
noncomputable def f27ba : Code := cl f27b
noncomputable def f27bao : Array Oper := opsOf f27ba
noncomputable def f27bc : Code := cr f27b
noncomputable def f27bca : Code := cl f27bc
noncomputable def f27bcao : Array Oper := opsOf f27bca
noncomputable def f27bcc : Code := cr f27bc
noncomputable def f27bcca : Code := cl f27bcc
noncomputable def f27bccao : Array Oper := opsOf f27bcca
theorem f27ba_eq : f27ba = .region 0 f27bao false := by kernel_rfl
theorem f27bca_eq : f27bca = .region 1 f27bcao false := by kernel_rfl
theorem f27bcca_eq : f27bcca = .region 2 f27bccao false := by kernel_rfl
theorem f27bcc_eq : f27bcc = .seq f27bcca .ret := by kernel_rfl
theorem f27bc_eq : f27bc = .seq f27bca f27bcc := by kernel_rfl
theorem f27b_eq : f27b = .seq f27ba f27bc := by kernel_rfl
theorem f27_body : Tryd.f27.body = some f27b := by kernel_rfl
theorem f27_fn : T13.fn 27 = some Tryd.f27 := by kernel_rfl
theorem f27_any (op N : Int) : ACall Tryd.prog T13 27 #[.agg #[.int .i64 op, .int .u32 N]] ⟨.lf, 0⟩ fun r _ => r = .bool (rightV op N) := by
  refine acall_of' 27 (initTm 0 #[.agg #[.int .i64 op, .int .u32 N]]) rfl f27_fn f27_body rfl rfl ?_
  rw [f27b_eq]
  refine aw_then ?_
  rw [f27ba_eq]
  refine aw_reg ?_
  refine aops_go 2 60 (by kernel_rfl) ?_
  refine aops_end (by kernel_rfl) (then_normal ?_)
  rw [f27bc_eq]
  refine aw_then ?_
  rw [f27bca_eq]
  refine aw_reg ?_
  refine aops_go 2 60 (by kernel_rfl) ?_
  refine aops_ask 6 (.int .i64 (sizeV op)) 29 #[.int .i64 op] (by kernel_rfl) (by kernel_rfl) (by kernel_rfl) (by kernel_rfl) rfl ?_
  refine aops_go 1 60 (by kernel_rfl) ?_
  refine aops_end (by kernel_rfl) (then_normal ?_)
  rw [f27bcc_eq]
  refine aw_then ?_
  rw [f27bcca_eq]
  refine aw_reg ?_
  refine aops_go 3 60 (by kernel_rfl) ?_
  rcases Bool.eq_false_or_eq_true ((((sizeV op) : Int) == 5)) with hc1 | hc1
  · skip
    refine aops_see 9 (.bool true) (see_bool (by kernel_rfl) hc1) ?_
    refine aops_go 18 60 (by kernel_rfl) ?_
    refine aops_end (by kernel_rfl) (then_normal ?_)
    refine aw_ret (bodyQ_ret ⟨.bool true, (by kernel_rfl), ?_⟩)
    congr 1; revert hc1; simp only [rightV]; have hsz := sizeV_in op; rcases hsz with e | e | e | e <;> simp [e] <;> (try omega)
  · skip
    refine aops_see 9 (.bool false) (see_bool (by kernel_rfl) hc1) ?_
    refine aops_go 3 60 (by kernel_rfl) ?_
    rcases Bool.eq_false_or_eq_true ((((sizeV op) : Int) == 2)) with hc2 | hc2
    · skip
      refine aops_see 12 (.bool true) (see_bool (by kernel_rfl) hc2) ?_
      refine aops_go 6 60 (by kernel_rfl) ?_
      rcases Bool.eq_false_or_eq_true ((decide ((N : Int) < 256))) with hc3 | hc3
      · skip
        refine aops_see 18 (.bool true) (see_bool (by kernel_rfl) hc3) ?_
        refine aops_go 9 60 (by kernel_rfl) ?_
        refine aops_end (by kernel_rfl) (then_normal ?_)
        refine aw_ret (bodyQ_ret ⟨.bool true, (by kernel_rfl), ?_⟩)
        congr 1; revert hc1 hc2 hc3; simp only [rightV]; have hsz := sizeV_in op; rcases hsz with e | e | e | e <;> simp [e] <;> (try omega)
      · skip
        refine aops_see 18 (.bool false) (see_bool (by kernel_rfl) hc3) ?_
        refine aops_go 3 60 (by kernel_rfl) ?_
        rcases Bool.eq_false_or_eq_true ((((sizeV op) : Int) == 1)) with hc4 | hc4
        · skip
          refine aops_see 21 (.bool true) (see_bool (by kernel_rfl) hc4) ?_
          refine aops_go 6 60 (by kernel_rfl) ?_
          refine aops_end (by kernel_rfl) (then_normal ?_)
          refine aw_ret (bodyQ_ret ⟨.bool ((N : Int) == 0), (by kernel_rfl), ?_⟩)
          congr 1; revert hc1 hc2 hc3 hc4; simp only [rightV]; have hsz := sizeV_in op; rcases hsz with e | e | e | e <;> simp [e] <;> (try omega)
        · skip
          refine aops_see 21 (.bool false) (see_bool (by kernel_rfl) hc4) ?_
          refine aops_go 6 60 (by kernel_rfl) ?_
          refine aops_end (by kernel_rfl) (then_normal ?_)
          refine aw_ret (bodyQ_ret ⟨.bool false, (by kernel_rfl), ?_⟩)
          congr 1; revert hc1 hc2 hc3 hc4; simp only [rightV]; have hsz := sizeV_in op; rcases hsz with e | e | e | e <;> simp [e] <;> (try omega)
    · skip
      refine aops_see 12 (.bool false) (see_bool (by kernel_rfl) hc2) ?_
      refine aops_go 9 60 (by kernel_rfl) ?_
      rcases Bool.eq_false_or_eq_true ((((sizeV op) : Int) == 1)) with hc5 | hc5
      · skip
        refine aops_see 21 (.bool true) (see_bool (by kernel_rfl) hc5) ?_
        refine aops_go 6 60 (by kernel_rfl) ?_
        refine aops_end (by kernel_rfl) (then_normal ?_)
        refine aw_ret (bodyQ_ret ⟨.bool ((N : Int) == 0), (by kernel_rfl), ?_⟩)
        congr 1; revert hc1 hc2 hc5; simp only [rightV]; have hsz := sizeV_in op; rcases hsz with e | e | e | e <;> simp [e] <;> (try omega)
      · skip
        refine aops_see 21 (.bool false) (see_bool (by kernel_rfl) hc5) ?_
        refine aops_go 6 60 (by kernel_rfl) ?_
        refine aops_end (by kernel_rfl) (then_normal ?_)
        refine aw_ret (bodyQ_ret ⟨.bool false, (by kernel_rfl), ?_⟩)
        congr 1; revert hc1 hc2 hc5; simp only [rightV]; have hsz := sizeV_in op; rcases hsz with e | e | e | e <;> simp [e] <;> (try omega)
def sp27 : List Value → Option Value
  | [.agg a] => match a.toList with
    | [.int .i64 op, .int .u32 N] => some (.bool (rightV op N))
    | _ => none
  | _ => none
noncomputable def T14 : Tab := { T13 with orc := addOrc T13.orc 27 sp27 }
theorem progOk14 [Bs] : ProgOk Tryd.prog T14 := progOk13.know 27 sp27 fun args v h => by
  unfold sp27 at h
  split at h
  · rename_i a
    split at h
    · rename_i op N e
      cases h
      have : a = #[.int .i64 op, .int .u32 N] := Array.ext' e
      subst this
      exact ⟨rfl, rfl, f27_any op N⟩
    · cases h
  · cases h
def opT : List Int := [1, 1, 1, 2, 3, 4, 5, 6, 7, 8, 16, 17, 18, 19, 20, 21, 22, 23, 24, 25, 32, 33, 34, 35, 36, 37, 38, 39, 40, 48, 49, 50, 51, 52, 53, 64, 65, 66, 67, 68, 0, 69]
def opOf (n : Int) : Int := opT.getD ((n % 1073741825) % 42).toNat 0
def i64B (n : Int) : Bool := decide (-9223372036854775808 ≤ n) && decide (n ≤ 9223372036854775807)
noncomputable def f36b : Code := Tryd.f36.body.getD .skip
noncomputable def f36ba : Code := cl f36b
noncomputable def f36bao : Array Oper := opsOf f36ba
noncomputable def f36bc : Code := cr f36b
noncomputable def f36bca : Code := cl f36bc
noncomputable def f36bcao : Array Oper := opsOf f36bca
noncomputable def f36bcc : Code := cr f36bc
noncomputable def f36bcca : Code := cl f36bcc
noncomputable def f36bccao : Array Oper := opsOf f36bcca
theorem f36ba_eq : f36ba = .region 0 f36bao false := by kernel_rfl
theorem f36bca_eq : f36bca = .region 1 f36bcao false := by kernel_rfl
theorem f36bcca_eq : f36bcca = .region 2 f36bccao false := by kernel_rfl
theorem f36bcc_eq : f36bcc = .seq f36bcca .ret := by kernel_rfl
theorem f36bc_eq : f36bc = .seq f36bca f36bcc := by kernel_rfl
theorem f36b_eq : f36b = .seq f36ba f36bc := by kernel_rfl
theorem f36_body : Tryd.f36.body = some f36b := by kernel_rfl
theorem f36_fn : T14.fn 36 = some Tryd.f36 := by kernel_rfl
theorem opT_at {j : Nat} (h : j < 42) : (opT.map (Value.int .i64))[j]? = some (.int .i64 (opT.getD j 0)) := by
  have : j < opT.length := h
  simp [List.getElem?_map, List.getD_eq_getElem?_getD, List.getElem?_eq_getElem this]
theorem f36_any (n : Int) (hi : i64B n = true) : ACall Tryd.prog T14 36 #[.int .i64 n] ⟨.lf, 0⟩ fun r _ => r = .int .i64 (opOf n) := by
  simp only [i64B, Bool.and_eq_true, decide_eq_true_eq] at hi
  have hin : inB n 0 1073741824 = true := by simp [inB, hi.1, hi.2]
  obtain ⟨j, hj⟩ : ∃ j : Nat, Int.tmod (0 + n % (1073741824 - 0 + 1)) 42 = (j : Int) := ⟨((0 + n % (1073741824 - 0 + 1)) % 42).toNat, by rw [Int.tmod_eq_emod_of_nonneg (by omega)]; omega⟩
  have hjl : j < 42 := by rw [Int.tmod_eq_emod_of_nonneg (by omega)] at hj; omega
  refine acall_of' 13 (initTm 0 #[.int .i64 n]) rfl f36_fn f36_body rfl rfl ?_
  rw [f36b_eq]
  refine aw_then ?_
  rw [f36ba_eq]
  refine aw_reg ?_
  refine aops_go 1 60 (by kernel_rfl) ?_
  refine aops_end (by kernel_rfl) (then_normal ?_)
  rw [f36bc_eq]
  refine aw_then ?_
  rw [f36bca_eq]
  refine aw_reg ?_
  refine aops_go 2 60 (by kernel_rfl) ?_
  refine aops_end (by kernel_rfl) (then_normal ?_)
  rw [f36bcc_eq]
  refine aw_then ?_
  rw [f36bcca_eq]
  refine aw_reg ?_
  refine aops_go 2 60 (by kernel_rfl) ?_
  refine aops_ask 7 (.int .i64 (0 + n % (1073741824 - 0 + 1))) 26 #[.int .i64 n, .int .i64 0, .int .i64 1073741824] (by kernel_rfl) (by kernel_rfl) (by kernel_rfl) (by kernel_rfl) (orc26 n 0 1073741824 hin) ?_
  refine aops_go 3 60 (by kernel_rfl) ?_
  refine aops_see 10 (.int .i64 ((j : Nat) : Int)) (see_int (by kernel_rfl) hj) ?_
  refine aops_val 11 (.pointer (some ⟨0, j, none⟩)) (⟨heapOf [(0, ⟨[Value.int .i64 1, .int .i64 1, .int .i64 1, .int .i64 2, .int .i64 3, .int .i64 4, .int .i64 5, .int .i64 6, .int .i64 7, .int .i64 8, .int .i64 16, .int .i64 17, .int .i64 18, .int .i64 19, .int .i64 20, .int .i64 21, .int .i64 22, .int .i64 23, .int .i64 24, .int .i64 25, .int .i64 32, .int .i64 33, .int .i64 34, .int .i64 35, .int .i64 36, .int .i64 37, .int .i64 38, .int .i64 39, .int .i64 40, .int .i64 48, .int .i64 49, .int .i64 50, .int .i64 51, .int .i64 52, .int .i64 53, .int .i64 64, .int .i64 65, .int .i64 66, .int .i64 67, .int .i64 68, .int .i64 0, .int .i64 69], 3, false⟩)], 1⟩ : Heap) (by kernel_rfl) (by kernel_rfl) (by kernel_rfl) ((by kernel_rfl : _ = val (bif (j : Nat).blt 42 then some (.pointer (some ⟨0, 0 + j * 1, none⟩)) else none) (⟨heapOf [(0, ⟨[Value.int .i64 1, .int .i64 1, .int .i64 1, .int .i64 2, .int .i64 3, .int .i64 4, .int .i64 5, .int .i64 6, .int .i64 7, .int .i64 8, .int .i64 16, .int .i64 17, .int .i64 18, .int .i64 19, .int .i64 20, .int .i64 21, .int .i64 22, .int .i64 23, .int .i64 24, .int .i64 25, .int .i64 32, .int .i64 33, .int .i64 34, .int .i64 35, .int .i64 36, .int .i64 37, .int .i64 38, .int .i64 39, .int .i64 40, .int .i64 48, .int .i64 49, .int .i64 50, .int .i64 51, .int .i64 52, .int .i64 53, .int .i64 64, .int .i64 65, .int .i64 66, .int .i64 67, .int .i64 68, .int .i64 0, .int .i64 69], 3, false⟩)], 1⟩ : Heap)).trans (by rw [show (j : Nat).blt 42 = true from (by rw [blt_dec]; simp only [decide_eq_true_eq]; omega)]; simp [val])) ?_
  refine aops_val 12 (.int .i64 (opT.getD j 0)) (⟨heapOf [(0, ⟨[Value.int .i64 1, .int .i64 1, .int .i64 1, .int .i64 2, .int .i64 3, .int .i64 4, .int .i64 5, .int .i64 6, .int .i64 7, .int .i64 8, .int .i64 16, .int .i64 17, .int .i64 18, .int .i64 19, .int .i64 20, .int .i64 21, .int .i64 22, .int .i64 23, .int .i64 24, .int .i64 25, .int .i64 32, .int .i64 33, .int .i64 34, .int .i64 35, .int .i64 36, .int .i64 37, .int .i64 38, .int .i64 39, .int .i64 40, .int .i64 48, .int .i64 49, .int .i64 50, .int .i64 51, .int .i64 52, .int .i64 53, .int .i64 64, .int .i64 65, .int .i64 66, .int .i64 67, .int .i64 68, .int .i64 0, .int .i64 69], 3, false⟩)], 1⟩ : Heap) (by kernel_rfl) (by kernel_rfl) (by kernel_rfl) ((by kernel_rfl : _ = val ((opT.map (Value.int .i64))[j]?) (⟨heapOf [(0, ⟨[Value.int .i64 1, .int .i64 1, .int .i64 1, .int .i64 2, .int .i64 3, .int .i64 4, .int .i64 5, .int .i64 6, .int .i64 7, .int .i64 8, .int .i64 16, .int .i64 17, .int .i64 18, .int .i64 19, .int .i64 20, .int .i64 21, .int .i64 22, .int .i64 23, .int .i64 24, .int .i64 25, .int .i64 32, .int .i64 33, .int .i64 34, .int .i64 35, .int .i64 36, .int .i64 37, .int .i64 38, .int .i64 39, .int .i64 40, .int .i64 48, .int .i64 49, .int .i64 50, .int .i64 51, .int .i64 52, .int .i64 53, .int .i64 64, .int .i64 65, .int .i64 66, .int .i64 67, .int .i64 68, .int .i64 0, .int .i64 69], 3, false⟩)], 1⟩ : Heap)).trans (val_of (opT_at hjl))) ?_
  refine aops_go 1 60 (by kernel_rfl) ?_
  refine aops_end (by kernel_rfl) (then_normal ?_)
  refine aw_ret (bodyQ_ret ⟨.int .i64 (opT.getD j 0), (by kernel_rfl), ?_⟩)
  rw [Int.tmod_eq_emod_of_nonneg (by omega)] at hj; congr 1; unfold opOf; congr 1; omega
def sp36 : List Value → Option Value
  | [.int .i64 n] => bif i64B n then some (.int .i64 (opOf n)) else none
  | _ => none
noncomputable def T15 : Tab := { T14 with orc := addOrc T14.orc 36 sp36 }
theorem progOk15 [Bs] : ProgOk Tryd.prog T15 := progOk14.know 36 sp36 fun args v h => by
  unfold sp36 at h
  split at h
  · rename_i n
    cases hb : i64B n
    · rw [hb] at h; cases h
    · rw [hb] at h; cases h
      exact ⟨rfl, rfl, f36_any n hb⟩
  · cases h
end Gc
end Go.Proofs.YtpfmmckbfejfnaaDoor
