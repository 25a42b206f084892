/- Chapter 3: numerals. -/
import Derived.Test.YtndjckfnggnddaaDoorGb
import Derived.Test.YtndjckfnggnddaaDoorGf
namespace Go.Proofs.YtndjckfnggnddaaDoor
open Go Go.Ev Go.RowKit
set_option linter.unusedVariables false
set_option linter.unusedSimpArgs false
set_option maxRecDepth 100000
namespace Hc
/-- The table of powers of ten lies as the text lays it. -/
class Tb [Bs] : Prop where
  tab : ∀ w, OnBs w → Lib.TabIs Tryd.prog w "internal/strconv.uint64pow10" .u64 Lib.pow10Tab
def u64B (n : Int) : Bool := decide (0 ≤ n) && decide (n < 18446744073709551616)
def u32B (n : Int) : Bool := decide (0 ≤ n) && decide (n < 4294967296)
def decL : Nat → Nat → List UInt8 → List UInt8
  | 0, _, l => l
  | f + 1, n, l => bif n.blt 10 then UInt8.ofNat (48 + n) :: l else decL f (n / 10) (UInt8.ofNat (48 + n % 10) :: l)
theorem decL_eq : ∀ (f n : Nat) (l : List UInt8), n < 10 ^ f → decL f n l = Lib.decDigits n ++ l ∨ f = 0 := by
  intro f
  induction f with
  | zero => intro n l h; exact .inr rfl
  | succ f ih =>
    intro n l h
    refine .inl ?_
    simp only [decL, blt_dec]
    by_cases h1 : n < 10
    · rw [Lib.decDigits, dif_pos h1]; simp [h1]
    · rw [Lib.decDigits.eq_def n, dif_neg h1]
      simp only [h1, decide_false, cond_false]
      have : n / 10 < 10 ^ f := by rw [Nat.pow_succ] at h; omega
      rcases ih (n / 10) (UInt8.ofNat (48 + n % 10) :: l) this with e | e
      · rw [e]; simp
      · subst e; simp at this; omega
def dec (n : Int) : ByteArray := ⟨⟨decL 20 n.toNat []⟩⟩
theorem dec_eq (k : Nat) (h : k < 18446744073709551616) : dec (k : Int) = ⟨⟨Lib.decDigits k⟩⟩ := by
  unfold dec
  rw [Int.toNat_natCast]
  rcases decL_eq 20 k [] (by omega) with e | e
  · rw [e, List.append_nil]
  · cases e
def sp24 : List Value → Option Value
  | [.int .u64 n, .int .i64 b] => bif u64B n && b == 10 then some (.string (dec n)) else none
  | _ => none
noncomputable def T8 : Tab := { T7 with orc := addOrc T7.orc 24 sp24 }
theorem progOk8 [Bs] [Tb] : ProgOk Tryd.prog T8 := progOk7.add 24 sp24 fun args v h => by
  unfold sp24 at h
  split at h
  · rename_i n b
    cases hb : (u64B n && b == 10)
    · rw [hb] at h; cases h
    · rw [hb] at h; cases h
      simp only [u64B, Bool.and_eq_true, decide_eq_true_eq, beq_iff_eq] at hb
      obtain ⟨⟨h0, h1⟩, rfl⟩ := hb
      obtain ⟨k, rfl⟩ : ∃ k : Nat, n = k := ⟨n.toNat, by omega⟩
      refine ⟨rfl, rfl, fun w hw => ?_⟩
      have := fmt_any k (by omega) w (Tb.tab w hw)
      rw [dec_eq k (by omega)]
      exact this
  · cases h
theorem orc24 (n : Int) (h : u64B n = true) : sp24 [.int .u64 n, .int .i64 10] = some (.string (dec n)) := by
  simp only [sp24, h, Bool.true_and, beq_self_eq_true, cond_true]
theorem prun_bind {α β : Type} {P : Program} {f : α → Sem β} (s : Sem α) : ∀ (a : α) (b : β), prun P s = some a → prun P (f a) = some b → prun P (s >>= f) = some b := by
  induction s with
  | pure b0 => intro a b h hb; simp only [prun] at h; cases h; exact hb
  | program k ih => intro a b h hb; simp only [prun] at h; exact ih P a b h hb
  | _ => intro a b h; simp [prun] at h
theorem ha_conv {P : Program} {T : Tab} {tm : Tr Value} {o : Oper} {H : Heap} {s d : TypeId} {x : Operand} {u v : Value} (ho : o.op = .convert s d x) (hx : aeval tm x = some u) (h : aconvert T s d u H = none) (hc : closed u = true) (hr : prun P (Go.convert s d u) = some v) (hv : closed v = true) {H' : Heap} (hH : H = H' := by kernel_rfl) : aop P T tm o H = some (.val v, H') := by
  subst hH
  have hρ : ρ tm x = u := by simp only [ρ, hx, Option.getD_some]
  unfold aop
  simp only [ho, hx, h, orVal]
  unfold fallback
  simp only [ho, Op.operands, List.all_cons, List.all_nil, dataAt, hx, hc, Bool.and_self, cond_true]
  have he : prun P (execOp (ρ tm) o) = some (.value v) := by
    have : execOp (ρ tm) o = (do let v ← Go.convert s d u; pure (.value v)) := by simp [execOp, ho, hρ]
    rw [this]
    exact prun_bind _ _ _ hr rfl
  have hag : aggEq P tm o = none := by unfold aggEq; simp only [ho]
  simp only [hag, fallback0, ho, Op.operands, List.all_cons, List.all_nil, dataAt, hx, hc, Bool.and_self, cond_true, he, hv, val]
def opBin : Op → Option (BinOp × TypeId × Operand × Operand) | .binOp op t a b _ => some (op, t, a, b) | _ => none
theorem ha_fb {P : Program} {T : Tab} {tm : Tr Value} {o : Oper} {H : Heap} {op : BinOp} {t : TypeId} {a b : Operand} {u v r : Value} (ho0 : opBin o.op = some (op, t, a, b)) (hx : aeval tm a = some u) (hy : aeval tm b = some v) (h : abin T op t u v = none) (hc : closed u = true) (hd : closed v = true) (hr : prun P (do eqGuard op t a b u v; Go.binOp op t u v) = some r) (hv : closed r = true) (hn : ∀ xs, u ≠ .agg xs := by intro xs h; cases h) {H' : Heap} (hH : H = H' := by kernel_rfl) : aop P T tm o H = some (.val r, H') := by
  subst hH
  obtain ⟨t2, ho⟩ : ∃ t2, o.op = .binOp op t a b t2 := by
    unfold opBin at ho0
    split at ho0
    · rename_i op' t' a' b' t2 e; cases ho0; exact ⟨t2, e⟩
    · cases ho0
  have h1 : ρ tm a = u := by simp only [ρ, hx, Option.getD_some]
  have h2 : ρ tm b = v := by simp only [ρ, hy, Option.getD_some]
  unfold aop
  simp only [ho, hx, hy, h, orVal]
  unfold fallback
  simp only [ho, Op.operands, List.all_cons, List.all_nil, dataAt, hx, hy, hc, hd, Bool.and_self, cond_true]
  have he : prun P (execOp (ρ tm) o) = some (.value r) := by
    have : execOp (ρ tm) o = (do let v ← (do eqGuard op t a b u v; Go.binOp op t u v); pure (.value v)) := by simp [execOp, ho, h1, h2]
    rw [this]
    exact prun_bind _ _ _ hr rfl
  have hag : aggEq P tm o = none := by
    unfold aggEq
    simp only [ho, hx, hy]
    split
    · rename_i e _; cases e; exact absurd rfl (hn _)
    · rename_i e _; cases e; exact absurd rfl (hn _)
    · rfl
  simp only [hag, fallback0, ho, Op.operands, List.all_cons, List.all_nil, dataAt, hx, hy, hc, hd, Bool.and_self, cond_true, he, hv, val]
theorem sadd_run {P : Program} {t : TypeId} {a b : Operand} {x y : ByteArray} (h : x.size + y.size ≤ 9223372036854775807) : prun P (do eqGuard .add t a b (.string x) (.string y); Go.binOp .add t (.string x) (.string y)) = some (.string (x ++ y)) := by
  show prun P (Op.stringOp .add x y) = _
  unfold Op.stringOp
  have : ¬ ((x.size + y.size : Nat) : Int) > IntKind.i64.max := by
    have : IntKind.i64.max = 9223372036854775807 := by kernel_rfl
    omega
  simp only [this, if_false]
  rfl
theorem seq_run {P : Program} {t : TypeId} {a b : Operand} {x y : ByteArray} {r : Bool} (h : decide (x = y) = r) : prun P (do eqGuard .eql t a b (.string x) (.string y); Go.binOp .eql t (.string x) (.string y)) = some (.bool r) := by
  show prun P (Op.stringOp .eql x y) = _
  unfold Op.stringOp
  show some (Value.bool (x.toList == y.toList)) = _
  rw [← h]
  congr 2
  rw [Lib.toList_data, Lib.toList_data]
  by_cases e : x = y
  · subst e; simp
  · have : ¬ x.data = y.data := fun e2 => e (by cases x; cases y; congr 1)
    simp [e, this]
theorem sne_run {P : Program} {t : TypeId} {a b : Operand} {x y : ByteArray} {r : Bool} (h : decide (x = y) = !r) : prun P (do eqGuard .neq t a b (.string x) (.string y); Go.binOp .neq t (.string x) (.string y)) = some (.bool r) := by
  show prun P (Op.stringOp .neq x y) = _
  unfold Op.stringOp
  show some (Value.bool !(x.toList == y.toList)) = _
  have h2 : (x.toList == y.toList) = !r := by
    rw [← h, Lib.toList_data, Lib.toList_data]
    by_cases e : x = y
    · subst e; simp
    · have : ¬ x.data = y.data := fun e2 => e (by cases x; cases y; congr 1)
      simp [e, this]
  rw [h2, Bool.not_not]
theorem wi32 {x y : Int} (h : x = y) (h1 : 0 ≤ y) (h2 : y < 2147483648) : IntKind.i32.wrap x = y := by
  subst h
  rw [IntKind.wrap_i32]
  omega
theorem conv_digit {d : Nat} (h : d < 10) : prun Tryd.prog (Go.convert 21 9 (.int .i32 ((48 + d : Nat) : Int))) = some (.string ⟨⟨[UInt8.ofNat (48 + d)]⟩⟩) := by
  rcases (by omega : d = 0 ∨ d = 1 ∨ d = 2 ∨ d = 3 ∨ d = 4 ∨ d = 5 ∨ d = 6 ∨ d = 7 ∨ d = 8 ∨ d = 9) with rfl | rfl | rfl | rfl | rfl | rfl | rfl | rfl | rfl | rfl <;> kernel_rfl
theorem str_cons (c : UInt8) (l : List UInt8) : (⟨⟨[c]⟩⟩ : ByteArray) ++ ⟨⟨l⟩⟩ = ⟨⟨c :: l⟩⟩ := by
  apply ByteArray.ext
  simp
def fin (n : Nat) (l : List UInt8) : List UInt8 := if n = 0 then (if l = [] then [48] else l) else Lib.decDigits n ++ l
theorem fin_len {n k : Nat} {l : List UInt8} (h : fin n l = Lib.decDigits k) (hk : k < 4294967296) : l.length ≤ 20 := by
  have h1 : (Lib.decDigits k).length ≤ 20 := by
    rw [Lib.decDigits_length]
    by_cases h0 : k = 0
    · subst h0; rw [Lib.nDigits_small (by omega)]; omega
    · have := Lib.numDigits_eq k (by omega) (by omega); split at this <;> omega
  rw [← h] at h1
  unfold fin at h1
  split at h1
  · split at h1
    · rename_i e; subst e; simp
    · exact h1
  · simp at h1; omega
theorem size_mk (l : List UInt8) : (⟨⟨l⟩⟩ : ByteArray).size = l.length := rfl
theorem fin_step (n : Nat) (l : List UInt8) (h : 0 < n ∨ l = []) : fin (n / 10) (UInt8.ofNat (48 + n % 10) :: l) = fin n l := by
  unfold fin
  by_cases h0 : n = 0
  · subst h0
    rcases h with h | h
    · omega
    · subst h; rfl
  · rw [if_neg h0]
    by_cases h1 : n < 10
    · have e1 : n / 10 = 0 := by omega
      have e2 : n % 10 = n := by omega
      rw [if_pos e1, if_neg (by simp), e2, Lib.decDigits, dif_pos h1]; rfl
    · rw [if_neg (by omega), Lib.decDigits.eq_def n, dif_neg h1]; simp
theorem fin_start (n : Nat) : fin n [] = Lib.decDigits n := by
  unfold fin
  split
  · rename_i h; subst h; rw [Lib.decDigits, dif_pos (by omega)]; rfl
  · simp
noncomputable def f18b : Code := Tryd.f18.body.getD .skip
noncomputable def f18ba : Code := cl f18b
noncomputable def f18bao : Array Oper := opsOf f18ba
noncomputable def f18bc : Code := cr f18b
noncomputable def f18bca : Code := cl f18bc
noncomputable def f18bcao : Array Oper := opsOf f18bca
noncomputable def f18bcc : Code := cr f18bc
noncomputable def f18bcca : Code := cl f18bcc
noncomputable def f18bccaa : Code := cl f18bcca
noncomputable def f18bccaaa : Code := cl f18bccaa
noncomputable def f18bccaaaa : Code := cl f18bccaaa
noncomputable def f18bccaaaaa : Code := cl f18bccaaaa
noncomputable def f18bccaaaaao : Array Oper := opsOf f18bccaaaaa
noncomputable def f18bccaaaac : Code := cr f18bccaaaa
noncomputable def f18bccaaac : Code := cr f18bccaaa
noncomputable def f18bccaaaca : Code := cl f18bccaaac
noncomputable def f18bccaaacaa : Code := cl f18bccaaaca
noncomputable def f18bccaaacaao : Array Oper := opsOf f18bccaaacaa
noncomputable def f18bccaaacac : Code := cr f18bccaaaca
noncomputable def f18bccaaacaco : Array Oper := opsOf f18bccaaacac
noncomputable def f18bccc : Code := cr f18bcc
noncomputable def f18bccca : Code := cl f18bccc
noncomputable def f18bcccao : Array Oper := opsOf f18bccca
theorem f18ba_eq : f18ba = .region 0 f18bao false := by kernel_rfl
theorem f18bca_eq : f18bca = .region 1 f18bcao false := by kernel_rfl
theorem f18bccaaaaa_eq : f18bccaaaaa = .region 2 f18bccaaaaao false := by kernel_rfl
theorem f18bccaaaac_eq : f18bccaaaac = .cond (cop f18bccaaaac) .skip (.exit 0) := by kernel_rfl
theorem f18bccaaaa_eq : f18bccaaaa = .seq f18bccaaaaa f18bccaaaac := by kernel_rfl
theorem f18bccaaacaa_eq : f18bccaaacaa = .region 3 f18bccaaacaao false := by kernel_rfl
theorem f18bccaaacac_eq : f18bccaaacac = .region 4 f18bccaaacaco false := by kernel_rfl
theorem f18bccaaaca_eq : f18bccaaaca = .seq f18bccaaacaa f18bccaaacac := by kernel_rfl
theorem f18bccaaac_eq : f18bccaaac = .block 1 f18bccaaaca := by kernel_rfl
theorem f18bccaaa_eq : f18bccaaa = .seq f18bccaaaa f18bccaaac := by kernel_rfl
theorem f18bccaa_eq : f18bccaa = .loop f18bccaaa := by kernel_rfl
theorem f18bcca_eq : f18bcca = .block 0 f18bccaa := by kernel_rfl
theorem f18bccca_eq : f18bccca = .region 5 f18bcccao false := by kernel_rfl
theorem f18bccc_eq : f18bccc = .seq f18bccca .ret := by kernel_rfl
theorem f18bcc_eq : f18bcc = .seq f18bcca f18bccc := by kernel_rfl
theorem f18bc_eq : f18bc = .seq f18bca f18bcc := by kernel_rfl
theorem f18b_eq : f18b = .seq f18ba f18bc := by kernel_rfl
theorem f18_body : Tryd.f18.body = some f18b := by kernel_rfl
theorem f18_fn : T8.fn 18 = some Tryd.f18 := by kernel_rfl
theorem f18_nat (k : Nat) (hk : k < 4294967296) : ACall Tryd.prog T8 18 #[.int .u32 (k : Int)] ⟨.lf, 0⟩ fun r _ => r = .string (dec (k : Int)) := by
  refine acall_of' 20 (initTm 0 #[.int .u32 (k : Int)]) rfl f18_fn f18_body rfl rfl ?_
  rw [f18b_eq]
  refine aw_then ?_
  rw [f18ba_eq]
  refine aw_reg ?_
  refine aops_go 1 60 (by kernel_rfl) ?_
  refine aops_end (by kernel_rfl) (then_normal ?_)
  rw [f18bc_eq]
  refine aw_then ?_
  rw [f18bca_eq]
  refine aw_reg ?_
  refine aops_go 1 60 (by kernel_rfl) ?_
  refine aops_end (by kernel_rfl) (then_normal ?_)
  rw [f18bcc_eq]
  refine aw_then ?_
  rw [f18bcca_eq]
  refine aw_block ?_
  rw [f18bccaa_eq]
  refine aw_loop (fun m st => ∃ (n : Nat) (l : List UInt8), m = n + (if l = [] then 1 else 0) ∧ n < 4294967296 ∧ fin n l = Lib.decDigits k ∧ Kn st.tm [(0, .int .u32 (n : Int)), (3, .string ⟨⟨l⟩⟩)] ∧ st.H = ⟨.lf, 0⟩) (k + 1) ⟨k, [], rfl, hk, fin_start k, ⟨by kernel_rfl, by kernel_rfl, True.intro⟩, by kernel_rfl⟩ ?_
  rintro m st ⟨n, l, hm, hn, hf, hkn, hH⟩
  obtain ⟨d, hd⟩ : ∃ d, d = n % 10 := ⟨_, rfl⟩
  have hdl : d < 10 := by omega
  by_cases h0 : 0 < n
  · skip
    refine aw_kn' [(0, .int .u32 (n : Int)), (3, .string ⟨⟨l⟩⟩)] hkn hH fun tm => ?_
    rw [f18bccaaa_eq]
    refine aw_then ?_
    rw [f18bccaaaa_eq]
    refine aw_then ?_
    rw [f18bccaaaaa_eq]
    refine aw_reg ?_
    refine aops_go 3 60 (by kernel_rfl) ?_
    refine aops_see 6 (.bool true) (see_bool (by kernel_rfl) ((by simp; omega) : ((decide (((n : Nat) : Int) > 0))) = true)) ?_
    refine aops_go 3 60 (by kernel_rfl) ?_
    refine aops_end (by kernel_rfl) (then_normal ?_)
    rw [f18bccaaaac_eq]
    refine aw_cond (t := true) (by kernel_rfl) ?_
    refine aw_skip (then_normal ?_)
    rw [f18bccaaac_eq]
    refine aw_block ?_
    rw [f18bccaaaca_eq]
    refine aw_then ?_
    rw [f18bccaaacaa_eq]
    refine aw_reg ?_
    refine aops_go 2 60 (by kernel_rfl) ?_
    refine aops_see 11 (.int .u32 ((d : Nat) : Int)) (see_int (x := Int.tmod (n : Int) 10) (by kernel_rfl) (by rw [Int.tmod_eq_emod_of_nonneg (by omega)]; omega)) ?_
    refine aops_go 1 60 (by kernel_rfl) ?_
    refine aops_see 12 (.int .u32 ((48 + d : Nat) : Int)) (see_int (x := IntKind.u32.wrap (48 + (d : Int))) (by kernel_rfl) (wu32 (by omega) (by omega) (by omega))) ?_
    refine aops_go 1 60 (by kernel_rfl) ?_
    refine aops_see 13 (.int .i32 ((48 + d : Nat) : Int)) (see_int (x := IntKind.i32.wrap ((48 + d : Nat) : Int)) (by kernel_rfl) (wi32 rfl (by omega) (by omega))) ?_
    refine aops_val 14 (.string ⟨⟨[UInt8.ofNat (48 + d)]⟩⟩) ⟨.lf, 0⟩ (by kernel_rfl) (by kernel_rfl) (by kernel_rfl) (ha_conv (s := 21) (d := 9) (x := .tmp 13) (u := .int .i32 ((48 + d : Nat) : Int)) (by kernel_rfl) (by kernel_rfl) (by kernel_rfl) rfl (conv_digit hdl) rfl) ?_
    refine aops_go 1 60 (by kernel_rfl) ?_
    refine aops_val 16 (.string ⟨⟨UInt8.ofNat (48 + d) :: l⟩⟩) ⟨.lf, 0⟩ (by kernel_rfl) (by kernel_rfl) (by kernel_rfl) (ha_fb (op := .add) (t := 9) (a := .tmp 14) (b := .tmp 15) (u := .string (⟨⟨[UInt8.ofNat (48 + d)]⟩⟩ : ByteArray)) (v := .string (⟨⟨l⟩⟩ : ByteArray)) (by kernel_rfl) (by kernel_rfl) (by kernel_rfl) rfl rfl rfl ((sadd_run (by simp only [size_mk]; have := fin_len hf hk; simp at this ⊢; try omega)).trans (by rw [str_cons])) rfl) ?_
    refine aops_go 1 60 (by kernel_rfl) ?_
    refine aops_end (by kernel_rfl) (then_normal ?_)
    rw [f18bccaaacac_eq]
    refine aw_reg ?_
    refine aops_go 2 60 (by kernel_rfl) ?_
    refine aops_see 18 (.int .u32 ((n / 10 : Nat) : Int)) (see_int (x := IntKind.u32.wrap (Int.tdiv (n : Int) 10)) (by kernel_rfl) (wu32 (by rw [Int.tdiv_eq_ediv_of_nonneg (by omega)]; omega) (by omega) (by omega))) ?_
    refine aops_go 1 60 (by kernel_rfl) ?_
    refine aops_end (by kernel_rfl) (blk_normal (then_normal ⟨_, ?_, n / 10, UInt8.ofNat (48 + d) :: l, rfl, by omega, ?_, ⟨by kernel_rfl, by kernel_rfl, True.intro⟩, by kernel_rfl⟩))
    · rw [hm]; simp; try (split <;> omega)
    · rw [← hf]; try subst hd
      exact fin_step n l (.inl h0)
  · obtain rfl : n = 0 := by omega
    cases l with
    | nil =>
      refine aw_kn' [(0, .int .u32 0), (3, .string ⟨⟨[]⟩⟩)] hkn hH fun tm => ?_
      rw [f18bccaaa_eq]
      refine aw_then ?_
      rw [f18bccaaaa_eq]
      refine aw_then ?_
      rw [f18bccaaaaa_eq]
      refine aw_reg ?_
      refine aops_go 4 60 (by kernel_rfl) ?_
      refine aops_val 8 (.bool true) ⟨.lf, 0⟩ (by kernel_rfl) (by kernel_rfl) (by kernel_rfl) (ha_fb (op := .eql) (t := 9) (a := .tmp 7) (b := .const (.string ⟨⟨[]⟩⟩)) (u := .string (⟨⟨[]⟩⟩ : ByteArray)) (v := .string ⟨⟨[]⟩⟩) (by kernel_rfl) (by kernel_rfl) (by kernel_rfl) rfl rfl rfl (seq_run (by simp)) rfl) ?_
      refine aops_go 1 60 (by kernel_rfl) ?_
      refine aops_end (by kernel_rfl) (then_normal ?_)
      rw [f18bccaaaac_eq]
      refine aw_cond (t := true) (by kernel_rfl) ?_
      refine aw_skip (then_normal ?_)
      rw [f18bccaaac_eq]
      refine aw_block ?_
      rw [f18bccaaaca_eq]
      refine aw_then ?_
      rw [f18bccaaacaa_eq]
      refine aw_reg ?_
      refine aops_go 2 60 (by kernel_rfl) ?_
      refine aops_see 11 (.int .u32 0) (by kernel_rfl) ?_
      refine aops_go 1 60 (by kernel_rfl) ?_
      refine aops_see 12 (.int .u32 48) (by kernel_rfl) ?_
      refine aops_go 1 60 (by kernel_rfl) ?_
      refine aops_see 13 (.int .i32 48) (by kernel_rfl) ?_
      refine aops_go 2 60 (by kernel_rfl) ?_
      refine aops_val 16 (.string ⟨⟨UInt8.ofNat (48 + 0) :: []⟩⟩) ⟨.lf, 0⟩ (by kernel_rfl) (by kernel_rfl) (by kernel_rfl) (ha_fb (op := .add) (t := 9) (a := .tmp 14) (b := .tmp 15) (u := .string (⟨⟨[UInt8.ofNat (48 + 0)]⟩⟩ : ByteArray)) (v := .string (⟨⟨[]⟩⟩ : ByteArray)) (by kernel_rfl) (by kernel_rfl) (by kernel_rfl) rfl rfl rfl ((sadd_run (by simp only [size_mk]; have := fin_len hf hk; simp at this ⊢; try omega)).trans (by rw [str_cons])) rfl) ?_
      refine aops_go 1 60 (by kernel_rfl) ?_
      refine aops_end (by kernel_rfl) (then_normal ?_)
      rw [f18bccaaacac_eq]
      refine aw_reg ?_
      refine aops_go 2 60 (by kernel_rfl) ?_
      refine aops_see 18 (.int .u32 0) (by kernel_rfl) ?_
      refine aops_go 1 60 (by kernel_rfl) ?_
      refine aops_end (by kernel_rfl) (blk_normal (then_normal ⟨_, ?_, 0, UInt8.ofNat (48 + 0) :: [], rfl, by omega, ?_, ⟨by kernel_rfl, by kernel_rfl, True.intro⟩, by kernel_rfl⟩))
      · rw [hm]; simp; try (split <;> omega)
      · rw [← hf]; try subst hd
        exact fin_step 0 [] (.inr rfl)
    | cons c0 cs =>
      refine aw_kn' [(0, .int .u32 0), (3, .string ⟨⟨(c0 :: cs)⟩⟩)] hkn hH fun tm => ?_
      rw [f18bccaaa_eq]
      refine aw_then ?_
      rw [f18bccaaaa_eq]
      refine aw_then ?_
      rw [f18bccaaaaa_eq]
      refine aw_reg ?_
      refine aops_go 4 60 (by kernel_rfl) ?_
      refine aops_val 8 (.bool false) ⟨.lf, 0⟩ (by kernel_rfl) (by kernel_rfl) (by kernel_rfl) (ha_fb (op := .eql) (t := 9) (a := .tmp 7) (b := .const (.string ⟨⟨[]⟩⟩)) (u := .string (⟨⟨(c0 :: cs)⟩⟩ : ByteArray)) (v := .string ⟨⟨[]⟩⟩) (by kernel_rfl) (by kernel_rfl) (by kernel_rfl) rfl rfl rfl (seq_run (by simp)) rfl) ?_
      refine aops_go 1 60 (by kernel_rfl) ?_
      refine aops_end (by kernel_rfl) (then_normal ?_)
      rw [f18bccaaaac_eq]
      refine aw_cond (t := false) (by kernel_rfl) ?_
      refine aw_exit (then_exit (then_exit (blk_hit (then_normal ?_))))
      rw [f18bccc_eq]
      refine aw_then ?_
      rw [f18bccca_eq]
      refine aw_reg ?_
      refine aops_go 2 60 (by kernel_rfl) ?_
      refine aops_end (by kernel_rfl) (then_normal ?_)
      refine aw_ret (bodyQ_ret ⟨.string ⟨⟨(c0 :: cs)⟩⟩, (by kernel_rfl), ?_⟩)
      have : fin 0 (c0 :: cs) = c0 :: cs := by simp [fin]
      rw [this] at hf; rw [dec_eq k (by omega), ← hf]
def sp18 : List Value → Option Value
  | [.int .u32 n] => bif u32B n then some (.string (dec n)) else none
  | _ => none
noncomputable def T9 : Tab := { T8 with orc := addOrc T8.orc 18 sp18 }
theorem progOk9 [Bs] [Tb] : ProgOk Tryd.prog T9 := progOk8.know 18 sp18 fun args v h => by
  unfold sp18 at h
  split at h
  · rename_i n
    cases hb : u32B n
    · rw [hb] at h; cases h
    · rw [hb] at h; cases h
      simp only [u32B, Bool.and_eq_true, decide_eq_true_eq] at hb
      obtain ⟨k, rfl⟩ : ∃ k : Nat, n = k := ⟨n.toNat, by omega⟩
      exact ⟨rfl, rfl, f18_nat k (by omega)⟩
  · cases h
theorem orc18 (n : Int) (h : u32B n = true) : sp18 [.int .u32 n] = some (.string (dec n)) := by
  simp only [sp18, h, cond_true]
def sp23 : List Value → Option Value
  | [.int .i64 n] => bif regV n then some (.string (dec n)) else none
  | _ => none
noncomputable def T10 : Tab := { T9 with orc := addOrc T9.orc 23 sp23 }
theorem progOk10 [Bs] [Tb] : ProgOk Tryd.prog T10 := progOk9.add 23 sp23 fun args v h => by
  unfold sp23 at h
  split at h
  · rename_i n
    cases hb : (regV n)
    · rw [hb] at h; cases h
    · rw [hb] at h; cases h
      simp only [regV, Bool.and_eq_true, decide_eq_true_eq] at hb
      obtain ⟨k, rfl⟩ : ∃ k : Nat, n = k := ⟨n.toNat, by omega⟩
      refine ⟨rfl, rfl, fun w _ => ?_⟩
      rw [dec_eq k (by omega)]
      exact (Tryd.strconv_Itoa_small k (by omega) w).mono fun e w' he => ⟨he.1, by rw [he.2]; exact Quiet.refl _⟩
  · cases h
theorem orc23 (n : Int) (h : regV n = true) : sp23 [.int .i64 n] = some (.string (dec n)) := by
  simp only [sp23, h, cond_true]
end Hc
end Go.Proofs.YtndjckfnggnddaaDoor
