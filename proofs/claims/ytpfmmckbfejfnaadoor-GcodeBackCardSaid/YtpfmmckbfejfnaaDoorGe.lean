/- Chapter 2: texts, the instructions that are drawn, known. -/
import Derived.Test.YtpfmmckbfejfnaaDoorGd
namespace Go.Proofs.YtpfmmckbfejfnaaDoor
open Go Go.Ev Go.RowKit
set_option linter.unusedVariables false
set_option linter.unusedSimpArgs false
set_option maxRecDepth 100000
namespace Gc
theorem nameT_size : nameT.all (fun b => b.size.ble 10) = true := by kernel_rfl
theorem nameV_size (op : Int) : (nameV op).size ≤ 10 := by
  unfold nameV
  cases h : inT op
  · simp only [cond_false]; decide
  · simp only [cond_true, List.getD_eq_getElem?_getD]
    cases hk : nameT[op.toNat]? with
    | none => simp only [Option.getD_none]; decide
    | some k =>
      have := List.all_eq_true.1 nameT_size k (List.mem_of_getElem? hk)
      exact Nat.le_of_ble_eq_true this
theorem dec_size (n : Int) (h : u32B n = true) : (dec n).size ≤ 20 := by
  simp only [u32B, Bool.and_eq_true, decide_eq_true_eq] at h
  obtain ⟨k, rfl⟩ : ∃ k : Nat, n = k := ⟨n.toNat, by omega⟩
  rw [dec_eq k (by omega), size_mk, Lib.decDigits_length]
  by_cases h0 : k = 0
  · subst h0; rw [Lib.nDigits_small (by omega)]; omega
  · have := Lib.numDigits_eq k (by omega) (by omega); split at this <;> omega
def textV (op N : Int) : ByteArray := bif rightV op N then (bif decide (sizeV op > 1) then nameV op ++ ⟨⟨[32]⟩⟩ ++ dec N else nameV op) else ⟨⟨[63]⟩⟩
theorem size_app (a b : ByteArray) : (a ++ b).size = a.size + b.size := ByteArray.size_append
theorem aopsC_cvf {P : Program} {T : Tab} {n : Nat} {ops : Array Oper} {s : St} {K : St → Prop} {l : List Oper} (t : Nat) (v : Value) (he : l.isEmpty = false) (hw : awanted ops s.tm (hdO l) = true) (hd : dput n s.tm (hdO l).dst v = some (s.tm.put t (some v)))
    (hl : isLoad (hdO l).op = false) (hf : cls T (hdO l).op = .free) (ha : aop P T s.tm (hdO l) s.H = some (.val v, s.H)) (hk : AOpsC P T n ops l.tail K ⟨s.tm.put t (some v), s.H⟩) : AOpsC P T n ops l K s :=
  aopsC_cv t v he hw hd hl (fun h => by rw [hf] at h; cases h) ha hk
noncomputable def f20b : Code := Tryd.f20.body.getD .skip
noncomputable def f20ba : Code := cl f20b
noncomputable def f20bao : Array Oper := opsOf f20ba
noncomputable def f20bc : Code := cr f20b
noncomputable def f20bca : Code := cl f20bc
noncomputable def f20bcaa : Code := cl f20bca
noncomputable def f20bcaaa : Code := cl f20bcaa
noncomputable def f20bcaaao : Array Oper := opsOf f20bcaaa
noncomputable def f20bcaac : Code := cr f20bcaa
noncomputable def f20bcaaca : Code := cl f20bcaac
noncomputable def f20bcaacaa : Code := cl f20bcaaca
noncomputable def f20bcaacaao : Array Oper := opsOf f20bcaacaa
noncomputable def f20bcaacc : Code := cr f20bcaac
noncomputable def f20bcaacca : Code := cl f20bcaacc
noncomputable def f20bcaaccao : Array Oper := opsOf f20bcaacca
noncomputable def f20bcaaccc : Code := cr f20bcaacc
noncomputable def f20bcaaccca : Code := cl f20bcaaccc
noncomputable def f20bcaacccaa : Code := cl f20bcaaccca
noncomputable def f20bcaacccaao : Array Oper := opsOf f20bcaacccaa
noncomputable def f20bcc : Code := cr f20bc
noncomputable def f20bcca : Code := cl f20bcc
noncomputable def f20bccao : Array Oper := opsOf f20bcca
theorem f20ba_eq : f20ba = .region 0 f20bao false := by kernel_rfl
theorem f20bcaaa_eq : f20bcaaa = .region 1 f20bcaaao false := by kernel_rfl
theorem f20bcaacaa_eq : f20bcaacaa = .region 2 f20bcaacaao false := by kernel_rfl
theorem f20bcaaca_eq : f20bcaaca = .seq f20bcaacaa .ret := by kernel_rfl
theorem f20bcaacca_eq : f20bcaacca = .region 3 f20bcaaccao false := by kernel_rfl
theorem f20bcaacccaa_eq : f20bcaacccaa = .region 4 f20bcaacccaao true := by kernel_rfl
theorem f20bcaaccca_eq : f20bcaaccca = .seq f20bcaacccaa .ret := by kernel_rfl
theorem f20bcaaccc_eq : f20bcaaccc = .cond (cop f20bcaaccc) f20bcaaccca .skip := by kernel_rfl
theorem f20bcaacc_eq : f20bcaacc = .seq f20bcaacca f20bcaaccc := by kernel_rfl
theorem f20bcaac_eq : f20bcaac = .cond (cop f20bcaac) f20bcaaca f20bcaacc := by kernel_rfl
theorem f20bcaa_eq : f20bcaa = .seq f20bcaaa f20bcaac := by kernel_rfl
theorem f20bca_eq : f20bca = .block 0 f20bcaa := by kernel_rfl
theorem f20bcca_eq : f20bcca = .region 5 f20bccao false := by kernel_rfl
theorem f20bcc_eq : f20bcc = .seq f20bcca .ret := by kernel_rfl
theorem f20bc_eq : f20bc = .seq f20bca f20bcc := by kernel_rfl
theorem f20b_eq : f20b = .seq f20ba f20bc := by kernel_rfl
theorem f20_body : Tryd.f20.body = some f20b := by kernel_rfl
theorem f20_fn : T17.fn 20 = some Tryd.f20 := by kernel_rfl
theorem f20_any (op N : Int) (hN0 : u32B N = true) : ACall Tryd.prog T17 20 #[.agg #[.int .i64 op, .int .u32 N]] ⟨.lf, 0⟩ fun r _ => r = .string (textV op N) := by
  have hN1 := hN0
  simp only [u32B, Bool.and_eq_true, decide_eq_true_eq] at hN1
  have hN : u64B N = true := by simp only [u64B, Bool.and_eq_true, decide_eq_true_eq]; omega
  refine acall_of' 24 (initTm 0 #[.agg #[.int .i64 op, .int .u32 N]]) rfl f20_fn f20_body rfl rfl ?_
  rw [f20b_eq]
  refine aw_then ?_
  rw [f20ba_eq]
  refine aw_reg ?_
  refine aops_go 2 60 (by kernel_rfl) ?_
  refine aops_end (by kernel_rfl) (then_normal ?_)
  rw [f20bc_eq]
  refine aw_then ?_
  rw [f20bca_eq]
  refine aw_block ?_
  rw [f20bcaa_eq]
  refine aw_then ?_
  rw [f20bcaaa_eq]
  refine aw_reg ?_
  refine aops_go 1 60 (by kernel_rfl) ?_
  refine aops_ask 5 (.bool (rightV op N)) 19 #[.agg #[.int .i64 op, .int .u32 N]] (by kernel_rfl) (by kernel_rfl) (by kernel_rfl) (by kernel_rfl) rfl ?_
  refine aops_go 2 60 (by kernel_rfl) ?_
  refine aops_end (by kernel_rfl) (then_normal ?_)
  rw [f20bcaac_eq]
  rcases Bool.eq_false_or_eq_true (!(rightV op N)) with hc1 | hc1
  · skip
    refine aw_cond (t := true) (see_bool (by kernel_rfl) hc1) ?_
    rw [f20bcaaca_eq]
    refine aw_then ?_
    rw [f20bcaacaa_eq]
    refine aw_reg ?_
    refine aops_go 1 60 (by kernel_rfl) ?_
    refine aops_end (by kernel_rfl) (then_normal ?_)
    refine aw_ret (blk_ret (then_ret (bodyQ_ret ⟨.string ⟨⟨[63]⟩⟩, (by kernel_rfl), ?_⟩)))
    congr 1; unfold textV; cases hr : rightV op N <;> simp only [hr, Bool.not_true, Bool.not_false, Bool.false_eq_true, Bool.true_eq_false] at hc1; simp only [cond_true, cond_false]
  · skip
    refine aw_cond (t := false) (see_bool (by kernel_rfl) hc1) ?_
    rw [f20bcaacc_eq]
    refine aw_then ?_
    rw [f20bcaacca_eq]
    refine aw_reg ?_
    refine aops_go 2 60 (by kernel_rfl) ?_
    refine aops_ask 10 (.int .i64 (sizeV op)) 15 #[.int .i64 op] (by kernel_rfl) (by kernel_rfl) (by kernel_rfl) (by kernel_rfl) rfl ?_
    refine aops_go 2 60 (by kernel_rfl) ?_
    refine aops_end (by kernel_rfl) (then_normal ?_)
    rw [f20bcaaccc_eq]
    rcases Bool.eq_false_or_eq_true ((decide (((sizeV op) : Int) > 1))) with hc2 | hc2
    · skip
      refine aw_cond (t := true) (see_bool (by kernel_rfl) hc2) ?_
      rw [f20bcaaccca_eq]
      refine aw_then ?_
      rw [f20bcaacccaa_eq]
      refine aw_drawC ?_
      refine aopsC_go 1 (by kernel_rfl) ?_
      refine aopsC_get 13 (.int .i64 op) (by kernel_rfl) (by kernel_rfl) (by kernel_rfl) (veq_int _ _) (by kernel_rfl) ?_
      refine aopsC_ask 14 (.string (nameV op)) 38 #[.int .i64 op] (by kernel_rfl) (by kernel_rfl) (by kernel_rfl) (by kernel_rfl) rfl ?_
      refine aopsC_pt 15 (.string ((nameV op) ++ ⟨⟨[32]⟩⟩)) (by kernel_rfl) (by kernel_rfl) (by kernel_rfl) (by kernel_rfl) (ha_fb (op := .add) (t := 9) (a := .tmp 14) (b := .const (.string ⟨⟨[32]⟩⟩)) (u := .string (nameV op)) (v := .string ⟨⟨[32]⟩⟩) (by kernel_rfl) (by kernel_rfl) (by kernel_rfl) rfl rfl rfl (sadd_run (by (try simp only [size_app]); have h1 := nameV_size op; have h2 := dec_size N hN0; have h3 : (⟨⟨[32]⟩⟩ : ByteArray).size = 1 := rfl; omega)) rfl) ?_
      refine aopsC_go 1 (by kernel_rfl) ?_
      refine aopsC_get 17 (.int .u32 N) (by kernel_rfl) (by kernel_rfl) (by kernel_rfl) (veq_int _ _) (by kernel_rfl) ?_
      refine aopsC_cvf 18 (.int .u64 (IntKind.u64.wrap N)) (by kernel_rfl) (by kernel_rfl) (by kernel_rfl) (by kernel_rfl) (by kernel_rfl) (by kernel_rfl) ?_
      refine aopsC_see 18 (.int .u64 N) (see_int (x := IntKind.u64.wrap N) (by kernel_rfl) (wu64 rfl (by omega) (by omega))) ?_
      refine aopsC_ask 19 (.string (dec N)) 39 #[.int .u64 N, .int .i64 10] (by kernel_rfl) (by kernel_rfl) (by kernel_rfl) (by kernel_rfl) (orc39 _ hN) ?_
      refine aopsC_pt 20 (.string (((nameV op) ++ ⟨⟨[32]⟩⟩) ++ (dec N))) (by kernel_rfl) (by kernel_rfl) (by kernel_rfl) (by kernel_rfl) (ha_fb (op := .add) (t := 9) (a := .tmp 15) (b := .tmp 19) (u := .string ((nameV op) ++ ⟨⟨[32]⟩⟩)) (v := .string (dec N)) (by kernel_rfl) (by kernel_rfl) (by kernel_rfl) rfl rfl rfl (sadd_run (by (try simp only [size_app]); have h1 := nameV_size op; have h2 := dec_size N hN0; have h3 : (⟨⟨[32]⟩⟩ : ByteArray).size = 1 := rfl; omega)) rfl) ?_
      refine aopsC_go 1 (by kernel_rfl) ?_
      refine aopsC_end (by kernel_rfl) (then_normal ?_)
      refine aw_ret (blk_ret (then_ret (bodyQ_ret ⟨.string (((nameV op) ++ ⟨⟨[32]⟩⟩) ++ (dec N)), (by kernel_rfl), ?_⟩)))
      congr 1; unfold textV; cases hr : rightV op N <;> simp only [hr, Bool.not_true, Bool.not_false, Bool.false_eq_true, Bool.true_eq_false] at hc1; simp only [hc2, cond_true, cond_false]
    · skip
      refine aw_cond (t := false) (see_bool (by kernel_rfl) hc2) ?_
      refine aw_skip (blk_normal (then_normal ?_))
      rw [f20bcc_eq]
      refine aw_then ?_
      rw [f20bcca_eq]
      refine aw_reg ?_
      refine aops_go 2 60 (by kernel_rfl) ?_
      refine aops_ask 23 (.string (nameV op)) 38 #[.int .i64 op] (by kernel_rfl) (by kernel_rfl) (by kernel_rfl) (by kernel_rfl) rfl ?_
      refine aops_go 1 60 (by kernel_rfl) ?_
      refine aops_end (by kernel_rfl) (then_normal ?_)
      refine aw_ret (bodyQ_ret ⟨.string (nameV op), (by kernel_rfl), ?_⟩)
      congr 1; unfold textV; cases hr : rightV op N <;> simp only [hr, Bool.not_true, Bool.not_false, Bool.false_eq_true, Bool.true_eq_false] at hc1; simp only [hc2, cond_true, cond_false]
def sp20 : List Value → Option Value
  | [.agg a] => match a.toList with
    | [.int .i64 op, .int .u32 N] => bif u32B N then some (.string (textV op N)) else none
    | _ => none
  | _ => none
noncomputable def T18 : Tab := { T17 with orc := addOrc T17.orc 20 sp20 }
theorem progOk18 [Bs] [Tb] : ProgOk Tryd.prog T18 := progOk17.know 20 sp20 fun args v h => by
  unfold sp20 at h
  split at h
  · rename_i a
    split at h
    · rename_i op N e
      cases hb : u32B N
      · rw [hb] at h; cases h
      · rw [hb] at h; cases h
        have : a = #[.int .i64 op, .int .u32 N] := Array.ext' e
        subst this
        exact ⟨rfl, rfl, f20_any op N hb⟩
    · cases h
  · cases h
theorem orc20 (op N : Int) (h : u32B N = true) : sp20 [.agg #[.int .i64 op, .int .u32 N]] = some (.string (textV op N)) := by
  simp only [sp20, h, cond_true]
def numOf (op v : Int) : Int := bif sizeV op == 2 then (bif decide (op ≥ 32) && decide (op ≤ 38) then (v % 40 + 240) % 256 else bif (op == 66) || (op == 67) then v % 12 else v % 256) else bif sizeV op == 5 then (bif v % 4 == 0 then v else bif v % 4 == 1 then v % 256 else bif v % 4 == 2 then 32768 + v % 64 else v % 4096) else 0
noncomputable def f13b : Code := Tryd.f13.body.getD .skip
noncomputable def f13ba : Code := cl f13b
noncomputable def f13bao : Array Oper := opsOf f13ba
noncomputable def f13bc : Code := cr f13b
noncomputable def f13bca : Code := cl f13bc
noncomputable def f13bcao : Array Oper := opsOf f13bca
noncomputable def f13bcc : Code := cr f13bc
noncomputable def f13bcca : Code := cl f13bcc
noncomputable def f13bccaa : Code := cl f13bcca
noncomputable def f13bccaao : Array Oper := opsOf f13bccaa
noncomputable def f13bccac : Code := cr f13bcca
noncomputable def f13bccaca : Code := cl f13bccac
noncomputable def f13bccacaa : Code := cl f13bccaca
noncomputable def f13bccacaao : Array Oper := opsOf f13bccacaa
noncomputable def f13bccacac : Code := cr f13bccaca
noncomputable def f13bccacaca : Code := cl f13bccacac
noncomputable def f13bccacacaa : Code := cl f13bccacaca
noncomputable def f13bccacacaao : Array Oper := opsOf f13bccacacaa
noncomputable def f13bccacacac : Code := cr f13bccacaca
noncomputable def f13bccacacaca : Code := cl f13bccacacac
noncomputable def f13bccacacacaa : Code := cl f13bccacacaca
noncomputable def f13bccacacacaao : Array Oper := opsOf f13bccacacacaa
noncomputable def f13bccacacacac : Code := cr f13bccacacaca
noncomputable def f13bccacacacaca : Code := cl f13bccacacacac
noncomputable def f13bccacacacacao : Array Oper := opsOf f13bccacacacaca
noncomputable def f13bccacacacc : Code := cr f13bccacacac
noncomputable def f13bccacacacca : Code := cl f13bccacacacc
noncomputable def f13bccacacaccao : Array Oper := opsOf f13bccacacacca
noncomputable def f13bccacacaccc : Code := cr f13bccacacacc
noncomputable def f13bccacacaccca : Code := cl f13bccacacaccc
noncomputable def f13bccacacacccao : Array Oper := opsOf f13bccacacaccca
noncomputable def f13bccacacc : Code := cr f13bccacac
noncomputable def f13bccacacca : Code := cl f13bccacacc
noncomputable def f13bccacaccao : Array Oper := opsOf f13bccacacca
noncomputable def f13bccacaccc : Code := cr f13bccacacc
noncomputable def f13bccacaccca : Code := cl f13bccacaccc
noncomputable def f13bccacacccao : Array Oper := opsOf f13bccacaccca
noncomputable def f13bccc : Code := cr f13bcc
noncomputable def f13bccca : Code := cl f13bccc
noncomputable def f13bcccao : Array Oper := opsOf f13bccca
theorem f13ba_eq : f13ba = .region 0 f13bao false := by kernel_rfl
theorem f13bca_eq : f13bca = .region 1 f13bcao false := by kernel_rfl
theorem f13bccaa_eq : f13bccaa = .region 2 f13bccaao false := by kernel_rfl
theorem f13bccacaa_eq : f13bccacaa = .region 3 f13bccacaao false := by kernel_rfl
theorem f13bccacacaa_eq : f13bccacacaa = .region 4 f13bccacacaao false := by kernel_rfl
theorem f13bccacacacaa_eq : f13bccacacacaa = .region 5 f13bccacacacaao false := by kernel_rfl
theorem f13bccacacacaca_eq : f13bccacacacaca = .region 6 f13bccacacacacao false := by kernel_rfl
theorem f13bccacacacac_eq : f13bccacacacac = .cond (cop f13bccacacacac) f13bccacacacaca .skip := by kernel_rfl
theorem f13bccacacaca_eq : f13bccacacaca = .seq f13bccacacacaa f13bccacacacac := by kernel_rfl
theorem f13bccacacacca_eq : f13bccacacacca = .region 7 f13bccacacaccao false := by kernel_rfl
theorem f13bccacacaccca_eq : f13bccacacaccca = .region 8 f13bccacacacccao false := by kernel_rfl
theorem f13bccacacaccc_eq : f13bccacacaccc = .cond (cop f13bccacacaccc) f13bccacacaccca .skip := by kernel_rfl
theorem f13bccacacacc_eq : f13bccacacacc = .seq f13bccacacacca f13bccacacaccc := by kernel_rfl
theorem f13bccacacac_eq : f13bccacacac = .seq f13bccacacaca f13bccacacacc := by kernel_rfl
theorem f13bccacaca_eq : f13bccacaca = .seq f13bccacacaa f13bccacacac := by kernel_rfl
theorem f13bccacacca_eq : f13bccacacca = .region 9 f13bccacaccao false := by kernel_rfl
theorem f13bccacaccca_eq : f13bccacaccca = .region 10 f13bccacacccao false := by kernel_rfl
theorem f13bccacaccc_eq : f13bccacaccc = .cond (cop f13bccacaccc) f13bccacaccca .skip := by kernel_rfl
theorem f13bccacacc_eq : f13bccacacc = .seq f13bccacacca f13bccacaccc := by kernel_rfl
theorem f13bccacac_eq : f13bccacac = .cond (cop f13bccacac) f13bccacaca f13bccacacc := by kernel_rfl
theorem f13bccaca_eq : f13bccaca = .seq f13bccacaa f13bccacac := by kernel_rfl
theorem f13bccac_eq : f13bccac = .block 0 f13bccaca := by kernel_rfl
theorem f13bcca_eq : f13bcca = .seq f13bccaa f13bccac := by kernel_rfl
theorem f13bccca_eq : f13bccca = .region 11 f13bcccao false := by kernel_rfl
theorem f13bccc_eq : f13bccc = .seq f13bccca .ret := by kernel_rfl
theorem f13bcc_eq : f13bcc = .seq f13bcca f13bccc := by kernel_rfl
theorem f13bc_eq : f13bc = .seq f13bca f13bcc := by kernel_rfl
theorem f13b_eq : f13b = .seq f13ba f13bc := by kernel_rfl
theorem f13_body : Tryd.f13.body = some f13b := by kernel_rfl
theorem f13_fn : T18.fn 13 = some Tryd.f13 := by kernel_rfl
theorem f13_any (n v : Int) (hn : i64B n = true) (hv0 : u32B v = true) : ACall Tryd.prog T18 13 #[.int .i64 n, .int .u32 v] ⟨.lf, 0⟩ fun r _ => r = .agg #[.int .i64 (opOf n), .int .u32 (numOf (opOf n) v)] := by
  have hv1 := hv0
  simp only [u32B, Bool.and_eq_true, decide_eq_true_eq] at hv1
  refine acall_of' 58 (initTm 0 #[.int .i64 n, .int .u32 v]) rfl f13_fn f13_body rfl rfl ?_
  rw [f13b_eq]
  refine aw_then ?_
  rw [f13ba_eq]
  refine aw_reg ?_
  refine aops_go 1 60 (by kernel_rfl) ?_
  refine aops_end (by kernel_rfl) (then_normal ?_)
  rw [f13bc_eq]
  refine aw_then ?_
  rw [f13bca_eq]
  refine aw_reg ?_
  refine aops_go 1 60 (by kernel_rfl) ?_
  refine aops_ask 7 (.int .i64 (opOf n)) 36 #[.int .i64 n] (by kernel_rfl) (by kernel_rfl) (by kernel_rfl) (by kernel_rfl) (show (bif i64B _ then some (Value.int .i64 (opOf _)) else none) = _ by rw [hn]; rfl) ?_
  refine aops_go 3 60 (by kernel_rfl) ?_
  refine aops_end (by kernel_rfl) (then_normal ?_)
  rw [f13bcc_eq]
  refine aw_then ?_
  rw [f13bcca_eq]
  refine aw_then ?_
  rw [f13bccaa_eq]
  refine aw_reg ?_
  refine aops_go 2 60 (by kernel_rfl) ?_
  refine aops_ask 11 (.int .i64 (sizeV (opOf n))) 29 #[.int .i64 (opOf n)] (by kernel_rfl) (by kernel_rfl) (by kernel_rfl) (by kernel_rfl) rfl ?_
  refine aops_end (by kernel_rfl) (then_normal ?_)
  rw [f13bccac_eq]
  refine aw_block ?_
  rw [f13bccaca_eq]
  refine aw_then ?_
  rw [f13bccacaa_eq]
  refine aw_reg ?_
  refine aops_go 2 60 (by kernel_rfl) ?_
  refine aops_end (by kernel_rfl) (then_normal ?_)
  rw [f13bccacac_eq]
  rcases Bool.eq_false_or_eq_true ((((sizeV (opOf n)) : Int) == 2)) with hc1 | hc1
  · skip
    refine aw_cond (t := true) (see_bool (by kernel_rfl) hc1) ?_
    rw [f13bccacaca_eq]
    refine aw_then ?_
    rw [f13bccacacaa_eq]
    refine aw_reg ?_
    refine aops_go 2 60 (by kernel_rfl) ?_
    refine aops_see 15 (.int .u32 (v % 256)) (see_int (x := (Int.tmod v 256)) (by kernel_rfl) (Int.tmod_eq_emod_of_nonneg (by omega))) ?_
    refine aops_go 2 60 (by kernel_rfl) ?_
    refine aops_end (by kernel_rfl) (then_normal ?_)
    rw [f13bccacacac_eq]
    refine aw_then ?_
    rw [f13bccacacaca_eq]
    refine aw_then ?_
    rw [f13bccacacacaa_eq]
    refine aw_reg ?_
    refine aops_go 4 60 (by kernel_rfl) ?_
    rcases Bool.eq_false_or_eq_true ((((opOf n) : Int) == 66)) with hc2 | hc2
    · skip
      refine aops_see 20 (.bool true) (see_bool (by kernel_rfl) hc2) ?_
      refine aops_go 4 60 (by kernel_rfl) ?_
      refine aops_end (by kernel_rfl) (then_normal ?_)
      rw [f13bccacacacac_eq]
      refine aw_cond (t := true) (by kernel_rfl) ?_
      rw [f13bccacacacaca_eq]
      refine aw_reg ?_
      refine aops_go 2 60 (by kernel_rfl) ?_
      refine aops_see 26 (.int .u32 (v % 12)) (see_int (x := (Int.tmod v 12)) (by kernel_rfl) (Int.tmod_eq_emod_of_nonneg (by omega))) ?_
      refine aops_go 2 60 (by kernel_rfl) ?_
      refine aops_end (by kernel_rfl) (then_normal ?_)
      rw [f13bccacacacc_eq]
      refine aw_then ?_
      rw [f13bccacacacca_eq]
      refine aw_reg ?_
      refine aops_go 4 60 (by kernel_rfl) ?_
      rcases Bool.eq_false_or_eq_true ((decide (((opOf n) : Int) ≥ 32))) with hc3 | hc3
      · skip
        refine aops_see 31 (.bool true) (see_bool (by kernel_rfl) hc3) ?_
        refine aops_go 4 60 (by kernel_rfl) ?_
        refine aops_end (by kernel_rfl) (then_normal ?_)
        rw [f13bccacacaccc_eq]
        rcases Bool.eq_false_or_eq_true ((decide (((opOf n) : Int) ≤ 38))) with hc4 | hc4
        · skip
          refine aw_cond (t := true) (see_bool (by kernel_rfl) hc4) ?_
          rw [f13bccacacaccca_eq]
          refine aw_reg ?_
          refine aops_go 2 60 (by kernel_rfl) ?_
          refine aops_see 37 (.int .u32 (v % 40)) (see_int (x := (Int.tmod v 40)) (by kernel_rfl) (Int.tmod_eq_emod_of_nonneg (by omega))) ?_
          refine aops_go 1 60 (by kernel_rfl) ?_
          refine aops_see 38 (.int .u32 ((v % 40) + 240)) (see_int (x := (IntKind.u32.wrap ((v % 40) + 240))) (by kernel_rfl) (wu32 (by omega) (by omega) (by omega))) ?_
          refine aops_go 1 60 (by kernel_rfl) ?_
          refine aops_see 39 (.int .u32 (((v % 40) + 240) % 256)) (see_int (x := (Int.tmod ((v % 40) + 240) 256)) (by kernel_rfl) (Int.tmod_eq_emod_of_nonneg (by omega))) ?_
          refine aops_go 2 60 (by kernel_rfl) ?_
          refine aops_end (by kernel_rfl) (blk_normal (then_normal ?_))
          rw [f13bccc_eq]
          refine aw_then ?_
          rw [f13bccca_eq]
          refine aw_reg ?_
          refine aops_go 2 60 (by kernel_rfl) ?_
          refine aops_end (by kernel_rfl) (then_normal ?_)
          refine aw_ret (bodyQ_ret ⟨.agg #[.int .i64 (opOf n), .int .u32 (((v % 40) + 240) % 256)], (by kernel_rfl), ?_⟩)
          congr 3; unfold numOf; simp only [hc1, hc2, hc3, hc4, cond_true, cond_false, Bool.true_and, Bool.false_and, Bool.and_true, Bool.and_false, Bool.true_or, Bool.or_true, Bool.false_or, Bool.or_false]; try (simp [h4])
        · skip
          refine aw_cond (t := false) (see_bool (by kernel_rfl) hc4) ?_
          refine aw_skip (blk_normal (then_normal ?_))
          rw [f13bccc_eq]
          refine aw_then ?_
          rw [f13bccca_eq]
          refine aw_reg ?_
          refine aops_go 2 60 (by kernel_rfl) ?_
          refine aops_end (by kernel_rfl) (then_normal ?_)
          refine aw_ret (bodyQ_ret ⟨.agg #[.int .i64 (opOf n), .int .u32 (v % 12)], (by kernel_rfl), ?_⟩)
          congr 3; unfold numOf; simp only [hc1, hc2, hc3, hc4, cond_true, cond_false, Bool.true_and, Bool.false_and, Bool.and_true, Bool.and_false, Bool.true_or, Bool.or_true, Bool.false_or, Bool.or_false]; try (simp [h4])
      · skip
        refine aops_see 31 (.bool false) (see_bool (by kernel_rfl) hc3) ?_
        refine aops_go 4 60 (by kernel_rfl) ?_
        refine aops_end (by kernel_rfl) (then_normal ?_)
        rw [f13bccacacaccc_eq]
        refine aw_cond (t := false) (by kernel_rfl) ?_
        refine aw_skip (blk_normal (then_normal ?_))
        rw [f13bccc_eq]
        refine aw_then ?_
        rw [f13bccca_eq]
        refine aw_reg ?_
        refine aops_go 2 60 (by kernel_rfl) ?_
        refine aops_end (by kernel_rfl) (then_normal ?_)
        refine aw_ret (bodyQ_ret ⟨.agg #[.int .i64 (opOf n), .int .u32 (v % 12)], (by kernel_rfl), ?_⟩)
        congr 3; unfold numOf; simp only [hc1, hc2, hc3, cond_true, cond_false, Bool.true_and, Bool.false_and, Bool.and_true, Bool.and_false, Bool.true_or, Bool.or_true, Bool.false_or, Bool.or_false]; try (simp [h4])
    · skip
      refine aops_see 20 (.bool false) (see_bool (by kernel_rfl) hc2) ?_
      refine aops_go 4 60 (by kernel_rfl) ?_
      refine aops_end (by kernel_rfl) (then_normal ?_)
      rw [f13bccacacacac_eq]
      rcases Bool.eq_false_or_eq_true ((((opOf n) : Int) == 67)) with hc5 | hc5
      · skip
        refine aw_cond (t := true) (see_bool (by kernel_rfl) hc5) ?_
        rw [f13bccacacacaca_eq]
        refine aw_reg ?_
        refine aops_go 2 60 (by kernel_rfl) ?_
        refine aops_see 26 (.int .u32 (v % 12)) (see_int (x := (Int.tmod v 12)) (by kernel_rfl) (Int.tmod_eq_emod_of_nonneg (by omega))) ?_
        refine aops_go 2 60 (by kernel_rfl) ?_
        refine aops_end (by kernel_rfl) (then_normal ?_)
        rw [f13bccacacacc_eq]
        refine aw_then ?_
        rw [f13bccacacacca_eq]
        refine aw_reg ?_
        refine aops_go 4 60 (by kernel_rfl) ?_
        rcases Bool.eq_false_or_eq_true ((decide (((opOf n) : Int) ≥ 32))) with hc6 | hc6
        · skip
          refine aops_see 31 (.bool true) (see_bool (by kernel_rfl) hc6) ?_
          refine aops_go 4 60 (by kernel_rfl) ?_
          refine aops_end (by kernel_rfl) (then_normal ?_)
          rw [f13bccacacaccc_eq]
          rcases Bool.eq_false_or_eq_true ((decide (((opOf n) : Int) ≤ 38))) with hc7 | hc7
          · skip
            refine aw_cond (t := true) (see_bool (by kernel_rfl) hc7) ?_
            rw [f13bccacacaccca_eq]
            refine aw_reg ?_
            refine aops_go 2 60 (by kernel_rfl) ?_
            refine aops_see 37 (.int .u32 (v % 40)) (see_int (x := (Int.tmod v 40)) (by kernel_rfl) (Int.tmod_eq_emod_of_nonneg (by omega))) ?_
            refine aops_go 1 60 (by kernel_rfl) ?_
            refine aops_see 38 (.int .u32 ((v % 40) + 240)) (see_int (x := (IntKind.u32.wrap ((v % 40) + 240))) (by kernel_rfl) (wu32 (by omega) (by omega) (by omega))) ?_
            refine aops_go 1 60 (by kernel_rfl) ?_
            refine aops_see 39 (.int .u32 (((v % 40) + 240) % 256)) (see_int (x := (Int.tmod ((v % 40) + 240) 256)) (by kernel_rfl) (Int.tmod_eq_emod_of_nonneg (by omega))) ?_
            refine aops_go 2 60 (by kernel_rfl) ?_
            refine aops_end (by kernel_rfl) (blk_normal (then_normal ?_))
            rw [f13bccc_eq]
            refine aw_then ?_
            rw [f13bccca_eq]
            refine aw_reg ?_
            refine aops_go 2 60 (by kernel_rfl) ?_
            refine aops_end (by kernel_rfl) (then_normal ?_)
            refine aw_ret (bodyQ_ret ⟨.agg #[.int .i64 (opOf n), .int .u32 (((v % 40) + 240) % 256)], (by kernel_rfl), ?_⟩)
            congr 3; unfold numOf; simp only [hc1, hc2, hc5, hc6, hc7, cond_true, cond_false, Bool.true_and, Bool.false_and, Bool.and_true, Bool.and_false, Bool.true_or, Bool.or_true, Bool.false_or, Bool.or_false]; try (simp [h4])
          · skip
            refine aw_cond (t := false) (see_bool (by kernel_rfl) hc7) ?_
            refine aw_skip (blk_normal (then_normal ?_))
            rw [f13bccc_eq]
            refine aw_then ?_
            rw [f13bccca_eq]
            refine aw_reg ?_
            refine aops_go 2 60 (by kernel_rfl) ?_
            refine aops_end (by kernel_rfl) (then_normal ?_)
            refine aw_ret (bodyQ_ret ⟨.agg #[.int .i64 (opOf n), .int .u32 (v % 12)], (by kernel_rfl), ?_⟩)
            congr 3; unfold numOf; simp only [hc1, hc2, hc5, hc6, hc7, cond_true, cond_false, Bool.true_and, Bool.false_and, Bool.and_true, Bool.and_false, Bool.true_or, Bool.or_true, Bool.false_or, Bool.or_false]; try (simp [h4])
        · skip
          refine aops_see 31 (.bool false) (see_bool (by kernel_rfl) hc6) ?_
          refine aops_go 4 60 (by kernel_rfl) ?_
          refine aops_end (by kernel_rfl) (then_normal ?_)
          rw [f13bccacacaccc_eq]
          refine aw_cond (t := false) (by kernel_rfl) ?_
          refine aw_skip (blk_normal (then_normal ?_))
          rw [f13bccc_eq]
          refine aw_then ?_
          rw [f13bccca_eq]
          refine aw_reg ?_
          refine aops_go 2 60 (by kernel_rfl) ?_
          refine aops_end (by kernel_rfl) (then_normal ?_)
          refine aw_ret (bodyQ_ret ⟨.agg #[.int .i64 (opOf n), .int .u32 (v % 12)], (by kernel_rfl), ?_⟩)
          congr 3; unfold numOf; simp only [hc1, hc2, hc5, hc6, cond_true, cond_false, Bool.true_and, Bool.false_and, Bool.and_true, Bool.and_false, Bool.true_or, Bool.or_true, Bool.false_or, Bool.or_false]; try (simp [h4])
      · skip
        refine aw_cond (t := false) (see_bool (by kernel_rfl) hc5) ?_
        refine aw_skip (then_normal ?_)
        rw [f13bccacacacc_eq]
        refine aw_then ?_
        rw [f13bccacacacca_eq]
        refine aw_reg ?_
        refine aops_go 4 60 (by kernel_rfl) ?_
        rcases Bool.eq_false_or_eq_true ((decide (((opOf n) : Int) ≥ 32))) with hc8 | hc8
        · skip
          refine aops_see 31 (.bool true) (see_bool (by kernel_rfl) hc8) ?_
          refine aops_go 4 60 (by kernel_rfl) ?_
          refine aops_end (by kernel_rfl) (then_normal ?_)
          rw [f13bccacacaccc_eq]
          rcases Bool.eq_false_or_eq_true ((decide (((opOf n) : Int) ≤ 38))) with hc9 | hc9
          · skip
            refine aw_cond (t := true) (see_bool (by kernel_rfl) hc9) ?_
            rw [f13bccacacaccca_eq]
            refine aw_reg ?_
            refine aops_go 2 60 (by kernel_rfl) ?_
            refine aops_see 37 (.int .u32 (v % 40)) (see_int (x := (Int.tmod v 40)) (by kernel_rfl) (Int.tmod_eq_emod_of_nonneg (by omega))) ?_
            refine aops_go 1 60 (by kernel_rfl) ?_
            refine aops_see 38 (.int .u32 ((v % 40) + 240)) (see_int (x := (IntKind.u32.wrap ((v % 40) + 240))) (by kernel_rfl) (wu32 (by omega) (by omega) (by omega))) ?_
            refine aops_go 1 60 (by kernel_rfl) ?_
            refine aops_see 39 (.int .u32 (((v % 40) + 240) % 256)) (see_int (x := (Int.tmod ((v % 40) + 240) 256)) (by kernel_rfl) (Int.tmod_eq_emod_of_nonneg (by omega))) ?_
            refine aops_go 2 60 (by kernel_rfl) ?_
            refine aops_end (by kernel_rfl) (blk_normal (then_normal ?_))
            rw [f13bccc_eq]
            refine aw_then ?_
            rw [f13bccca_eq]
            refine aw_reg ?_
            refine aops_go 2 60 (by kernel_rfl) ?_
            refine aops_end (by kernel_rfl) (then_normal ?_)
            refine aw_ret (bodyQ_ret ⟨.agg #[.int .i64 (opOf n), .int .u32 (((v % 40) + 240) % 256)], (by kernel_rfl), ?_⟩)
            congr 3; unfold numOf; simp only [hc1, hc2, hc5, hc8, hc9, cond_true, cond_false, Bool.true_and, Bool.false_and, Bool.and_true, Bool.and_false, Bool.true_or, Bool.or_true, Bool.false_or, Bool.or_false]; try (simp [h4])
          · skip
            refine aw_cond (t := false) (see_bool (by kernel_rfl) hc9) ?_
            refine aw_skip (blk_normal (then_normal ?_))
            rw [f13bccc_eq]
            refine aw_then ?_
            rw [f13bccca_eq]
            refine aw_reg ?_
            refine aops_go 2 60 (by kernel_rfl) ?_
            refine aops_end (by kernel_rfl) (then_normal ?_)
            refine aw_ret (bodyQ_ret ⟨.agg #[.int .i64 (opOf n), .int .u32 (v % 256)], (by kernel_rfl), ?_⟩)
            congr 3; unfold numOf; simp only [hc1, hc2, hc5, hc8, hc9, cond_true, cond_false, Bool.true_and, Bool.false_and, Bool.and_true, Bool.and_false, Bool.true_or, Bool.or_true, Bool.false_or, Bool.or_false]; try (simp [h4])
        · skip
          refine aops_see 31 (.bool false) (see_bool (by kernel_rfl) hc8) ?_
          refine aops_go 4 60 (by kernel_rfl) ?_
          refine aops_end (by kernel_rfl) (then_normal ?_)
          rw [f13bccacacaccc_eq]
          refine aw_cond (t := false) (by kernel_rfl) ?_
          refine aw_skip (blk_normal (then_normal ?_))
          rw [f13bccc_eq]
          refine aw_then ?_
          rw [f13bccca_eq]
          refine aw_reg ?_
          refine aops_go 2 60 (by kernel_rfl) ?_
          refine aops_end (by kernel_rfl) (then_normal ?_)
          refine aw_ret (bodyQ_ret ⟨.agg #[.int .i64 (opOf n), .int .u32 (v % 256)], (by kernel_rfl), ?_⟩)
          congr 3; unfold numOf; simp only [hc1, hc2, hc5, hc8, cond_true, cond_false, Bool.true_and, Bool.false_and, Bool.and_true, Bool.and_false, Bool.true_or, Bool.or_true, Bool.false_or, Bool.or_false]; try (simp [h4])
  · skip
    refine aw_cond (t := false) (see_bool (by kernel_rfl) hc1) ?_
    rw [f13bccacacc_eq]
    refine aw_then ?_
    rw [f13bccacacca_eq]
    refine aw_reg ?_
    refine aops_go 2 60 (by kernel_rfl) ?_
    refine aops_end (by kernel_rfl) (then_normal ?_)
    rw [f13bccacaccc_eq]
    rcases Bool.eq_false_or_eq_true ((((sizeV (opOf n)) : Int) == 5)) with hc10 | hc10
    · skip
      refine aw_cond (t := true) (see_bool (by kernel_rfl) hc10) ?_
      rw [f13bccacaccca_eq]
      refine aw_reg ?_
      refine aops_go 3 60 (by kernel_rfl) ?_
      refine aops_see 45 (.int .u32 (v % 256)) (see_int (x := (Int.tmod v 256)) (by kernel_rfl) (Int.tmod_eq_emod_of_nonneg (by omega))) ?_
      refine aops_go 2 60 (by kernel_rfl) ?_
      refine aops_see 47 (.int .u32 (v % 64)) (see_int (x := (Int.tmod v 64)) (by kernel_rfl) (Int.tmod_eq_emod_of_nonneg (by omega))) ?_
      refine aops_go 1 60 (by kernel_rfl) ?_
      refine aops_see 48 (.int .u32 (32768 + (v % 64))) (see_int (x := (IntKind.u32.wrap (32768 + (v % 64)))) (by kernel_rfl) (wu32 (by omega) (by omega) (by omega))) ?_
      refine aops_go 2 60 (by kernel_rfl) ?_
      refine aops_see 50 (.int .u32 (v % 4096)) (see_int (x := (Int.tmod v 4096)) (by kernel_rfl) (Int.tmod_eq_emod_of_nonneg (by omega))) ?_
      refine aops_go 3 60 (by kernel_rfl) ?_
      rcases (by omega : v % 4 = 0 ∨ v % 4 = 1 ∨ v % 4 = 2 ∨ v % 4 = 3) with h4 | h4 | h4 | h4
      · skip
        refine aops_see 53 (.int .u32 0) (see_int (x := Int.tmod v 4) (by kernel_rfl) (by rw [Int.tmod_eq_emod_of_nonneg (by omega)]; exact h4)) ?_
        refine aops_go 4 60 (by kernel_rfl) ?_
        refine aops_end (by kernel_rfl) (blk_normal (then_normal ?_))
        rw [f13bccc_eq]
        refine aw_then ?_
        rw [f13bccca_eq]
        refine aw_reg ?_
        refine aops_go 2 60 (by kernel_rfl) ?_
        refine aops_end (by kernel_rfl) (then_normal ?_)
        refine aw_ret (bodyQ_ret ⟨.agg #[.int .i64 (opOf n), .int .u32 v], (by kernel_rfl), ?_⟩)
        congr 3; unfold numOf; simp only [hc1, hc10, cond_true, cond_false, Bool.true_and, Bool.false_and, Bool.and_true, Bool.and_false, Bool.true_or, Bool.or_true, Bool.false_or, Bool.or_false]; try (simp [h4])
      · skip
        refine aops_see 53 (.int .u32 1) (see_int (x := Int.tmod v 4) (by kernel_rfl) (by rw [Int.tmod_eq_emod_of_nonneg (by omega)]; exact h4)) ?_
        refine aops_go 4 60 (by kernel_rfl) ?_
        refine aops_end (by kernel_rfl) (blk_normal (then_normal ?_))
        rw [f13bccc_eq]
        refine aw_then ?_
        rw [f13bccca_eq]
        refine aw_reg ?_
        refine aops_go 2 60 (by kernel_rfl) ?_
        refine aops_end (by kernel_rfl) (then_normal ?_)
        refine aw_ret (bodyQ_ret ⟨.agg #[.int .i64 (opOf n), .int .u32 (v % 256)], (by kernel_rfl), ?_⟩)
        congr 3; unfold numOf; simp only [hc1, hc10, cond_true, cond_false, Bool.true_and, Bool.false_and, Bool.and_true, Bool.and_false, Bool.true_or, Bool.or_true, Bool.false_or, Bool.or_false]; try (simp [h4])
      · skip
        refine aops_see 53 (.int .u32 2) (see_int (x := Int.tmod v 4) (by kernel_rfl) (by rw [Int.tmod_eq_emod_of_nonneg (by omega)]; exact h4)) ?_
        refine aops_go 4 60 (by kernel_rfl) ?_
        refine aops_end (by kernel_rfl) (blk_normal (then_normal ?_))
        rw [f13bccc_eq]
        refine aw_then ?_
        rw [f13bccca_eq]
        refine aw_reg ?_
        refine aops_go 2 60 (by kernel_rfl) ?_
        refine aops_end (by kernel_rfl) (then_normal ?_)
        refine aw_ret (bodyQ_ret ⟨.agg #[.int .i64 (opOf n), .int .u32 (32768 + (v % 64))], (by kernel_rfl), ?_⟩)
        congr 3; unfold numOf; simp only [hc1, hc10, cond_true, cond_false, Bool.true_and, Bool.false_and, Bool.and_true, Bool.and_false, Bool.true_or, Bool.or_true, Bool.false_or, Bool.or_false]; try (simp [h4])
      · skip
        refine aops_see 53 (.int .u32 3) (see_int (x := Int.tmod v 4) (by kernel_rfl) (by rw [Int.tmod_eq_emod_of_nonneg (by omega)]; exact h4)) ?_
        refine aops_go 4 60 (by kernel_rfl) ?_
        refine aops_end (by kernel_rfl) (blk_normal (then_normal ?_))
        rw [f13bccc_eq]
        refine aw_then ?_
        rw [f13bccca_eq]
        refine aw_reg ?_
        refine aops_go 2 60 (by kernel_rfl) ?_
        refine aops_end (by kernel_rfl) (then_normal ?_)
        refine aw_ret (bodyQ_ret ⟨.agg #[.int .i64 (opOf n), .int .u32 (v % 4096)], (by kernel_rfl), ?_⟩)
        congr 3; unfold numOf; simp only [hc1, hc10, cond_true, cond_false, Bool.true_and, Bool.false_and, Bool.and_true, Bool.and_false, Bool.true_or, Bool.or_true, Bool.false_or, Bool.or_false]; try (simp [h4])
    · skip
      refine aw_cond (t := false) (see_bool (by kernel_rfl) hc10) ?_
      refine aw_skip (blk_normal (then_normal ?_))
      rw [f13bccc_eq]
      refine aw_then ?_
      rw [f13bccca_eq]
      refine aw_reg ?_
      refine aops_go 2 60 (by kernel_rfl) ?_
      refine aops_end (by kernel_rfl) (then_normal ?_)
      refine aw_ret (bodyQ_ret ⟨.agg #[.int .i64 (opOf n), .int .u32 0], (by kernel_rfl), ?_⟩)
      congr 3; unfold numOf; simp only [hc1, hc10, cond_true, cond_false, Bool.true_and, Bool.false_and, Bool.and_true, Bool.and_false, Bool.true_or, Bool.or_true, Bool.false_or, Bool.or_false]; try (simp [h4])
def sp13 : List Value → Option Value
  | [.int .i64 n, .int .u32 v] => bif i64B n && u32B v then some (.agg #[.int .i64 (opOf n), .int .u32 (numOf (opOf n) v)]) else none
  | _ => none
noncomputable def T19 : Tab := { T18 with orc := addOrc T18.orc 13 sp13 }
theorem progOk19 [Bs] [Tb] : ProgOk Tryd.prog T19 := progOk18.know 13 sp13 fun args v h => by
  unfold sp13 at h
  split at h
  · rename_i n v
    cases hb : (i64B n && u32B v)
    · rw [hb] at h; cases h
    · rw [hb] at h; cases h
      simp only [Bool.and_eq_true] at hb
      exact ⟨rfl, rfl, f13_any n v hb.1 hb.2⟩
  · cases h
theorem orc13 (n v : Int) (h1 : i64B n = true) (h2 : u32B v = true) : sp13 [.int .i64 n, .int .u32 v] = some (.agg #[.int .i64 (opOf n), .int .u32 (numOf (opOf n) v)]) := by
  simp only [sp13, h1, h2, Bool.and_self, cond_true]
theorem known_run : answers (.bool true) (evCall Tryd.prog T19 60 11 #[] ⟨.lf, 0⟩) = true := by kernel_rfl
def sp11 : List Value → Option Value
  | [] => some (.bool true)
  | _ => none
noncomputable def T20 : Tab := { T19 with orc := addOrc T19.orc 11 sp11 }
theorem progOk20 [Bs] [Tb] : ProgOk Tryd.prog T20 := progOk19.know 11 sp11 fun args v h => by
  unfold sp11 at h
  split at h
  · cases h; exact ⟨rfl, rfl, acall_answers known_run⟩
  · cases h
end Gc
end Go.Proofs.YtpfmmckbfejfnaaDoor
