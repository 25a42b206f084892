/- Chapter 2: numerals and texts. -/
import Derived.Test.YtpfmmckbfejfnaaDoorGb
import Derived.Test.YtpfmmckbfejfnaaDoorGf
namespace Go.Proofs.YtpfmmckbfejfnaaDoor
open Go Go.Ev Go.RowKit
set_option linter.unusedVariables false
set_option linter.unusedSimpArgs false
set_option maxRecDepth 100000
namespace Gc
/-- The table of powers of ten lies as the text lays it. -/
class Tb [Bs] : Prop where
  tab : ∀ w, OnBs w → Lib.TabIs Tryd.prog w "internal/strconv.uint64pow10" .u64 Lib.pow10Tab
def u64B (n : Int) : Bool := decide (0 ≤ n) && decide (n < 18446744073709551616)
def u32B (n : Int) : Bool := decide (0 ≤ n) && decide (n < 4294967296)
def decL : Nat → Nat → List UInt8 → List UInt8
  | 0, _, l => l
  | f + 1, n, l => bif n.blt 10 then UInt8.ofNat (48 + n) :: l else decL f (n / 10) (UInt8.ofNat (48 + n % 10) :: l)
theorem decL_eq : ∀ (f n : Nat) (l : List UInt8), n < 10 ^ f → decL f n l = Lib.decDigits n ++ l ∨ f = 0 := by
  intro f
  induction f with
  | zero => intro n l h; exact .inr rfl
  | succ f ih =>
    intro n l h
    refine .inl ?_
    simp only [decL, blt_dec]
    by_cases h1 : n < 10
    · rw [Lib.decDigits, dif_pos h1]; simp [h1]
    · rw [Lib.decDigits.eq_def n, dif_neg h1]
      simp only [h1, decide_false, cond_false]
      have : n / 10 < 10 ^ f := by rw [Nat.pow_succ] at h; omega
      rcases ih (n / 10) (UInt8.ofNat (48 + n % 10) :: l) this with e | e
      · rw [e]; simp
      · subst e; simp at this; omega
def dec (n : Int) : ByteArray := ⟨⟨decL 20 n.toNat []⟩⟩
theorem dec_eq (k : Nat) (h : k < 18446744073709551616) : dec (k : Int) = ⟨⟨Lib.decDigits k⟩⟩ := by
  unfold dec
  rw [Int.toNat_natCast]
  rcases decL_eq 20 k [] (by omega) with e | e
  · rw [e, List.append_nil]
  · cases e
def sp39 : List Value → Option Value
  | [.int .u64 n, .int .i64 b] => bif u64B n && b == 10 then some (.string (dec n)) else none
  | _ => none
noncomputable def T16 : Tab := { T15 with orc := addOrc T15.orc 39 sp39 }
theorem progOk16 [Bs] [Tb] : ProgOk Tryd.prog T16 := progOk15.add 39 sp39 fun args v h => by
  unfold sp39 at h
  split at h
  · rename_i n b
    cases hb : (u64B n && b == 10)
    · rw [hb] at h; cases h
    · rw [hb] at h; cases h
      simp only [u64B, Bool.and_eq_true, decide_eq_true_eq, beq_iff_eq] at hb
      obtain ⟨⟨h0, h1⟩, rfl⟩ := hb
      obtain ⟨k, rfl⟩ : ∃ k : Nat, n = k := ⟨n.toNat, by omega⟩
      refine ⟨rfl, rfl, fun w hw => ?_⟩
      have := fmt_any k (by omega) w (Tb.tab w hw)
      rw [dec_eq k (by omega)]
      exact this
  · cases h
theorem orc39 (n : Int) (h : u64B n = true) : sp39 [.int .u64 n, .int .i64 10] = some (.string (dec n)) := by
  simp only [sp39, h, Bool.true_and, beq_self_eq_true, cond_true]
theorem prun_bind {α β : Type} {P : Program} {f : α → Sem β} (s : Sem α) : ∀ (a : α) (b : β), prun P s = some a → prun P (f a) = some b → prun P (s >>= f) = some b := by
  induction s with
  | pure b0 => intro a b h hb; simp only [prun] at h; cases h; exact hb
  | program k ih => intro a b h hb; simp only [prun] at h; exact ih P a b h hb
  | _ => intro a b h; simp [prun] at h
theorem ha_conv {P : Program} {T : Tab} {tm : Tr Value} {o : Oper} {H : Heap} {s d : TypeId} {x : Operand} {u v : Value} (ho : o.op = .convert s d x) (hx : aeval tm x = some u) (h : aconvert T s d u H = none) (hc : closed u = true) (hr : prun P (Go.convert s d u) = some v) (hv : closed v = true) {H' : Heap} (hH : H = H' := by kernel_rfl) : aop P T tm o H = some (.val v, H') := by
  subst hH
  have hρ : ρ tm x = u := by simp only [ρ, hx, Option.getD_some]
  unfold aop
  simp only [ho, hx, h, orVal]
  unfold fallback
  simp only [ho, Op.operands, List.all_cons, List.all_nil, dataAt, hx, hc, Bool.and_self, cond_true]
  have he : prun P (execOp (ρ tm) o) = some (.value v) := by
    have : execOp (ρ tm) o = (do let v ← Go.convert s d u; pure (.value v)) := by simp [execOp, ho, hρ]
    rw [this]
    exact prun_bind _ _ _ hr rfl
  have hag : aggEq P tm o = none := by unfold aggEq; simp only [ho]
  simp only [hag, fallback0, ho, Op.operands, List.all_cons, List.all_nil, dataAt, hx, hc, Bool.and_self, cond_true, he, hv, val]
def opBin : Op → Option (BinOp × TypeId × Operand × Operand) | .binOp op t a b _ => some (op, t, a, b) | _ => none
theorem ha_fb {P : Program} {T : Tab} {tm : Tr Value} {o : Oper} {H : Heap} {op : BinOp} {t : TypeId} {a b : Operand} {u v r : Value} (ho0 : opBin o.op = some (op, t, a, b)) (hx : aeval tm a = some u) (hy : aeval tm b = some v) (h : abin T op t u v = none) (hc : closed u = true) (hd : closed v = true) (hr : prun P (do eqGuard op t a b u v; Go.binOp op t u v) = some r) (hv : closed r = true) (hn : ∀ xs, u ≠ .agg xs := by intro xs h; cases h) {H' : Heap} (hH : H = H' := by kernel_rfl) : aop P T tm o H = some (.val r, H') := by
  subst hH
  obtain ⟨t2, ho⟩ : ∃ t2, o.op = .binOp op t a b t2 := by
    unfold opBin at ho0
    split at ho0
    · rename_i op' t' a' b' t2 e; cases ho0; exact ⟨t2, e⟩
    · cases ho0
  have h1 : ρ tm a = u := by simp only [ρ, hx, Option.getD_some]
  have h2 : ρ tm b = v := by simp only [ρ, hy, Option.getD_some]
  unfold aop
  simp only [ho, hx, hy, h, orVal]
  unfold fallback
  simp only [ho, Op.operands, List.all_cons, List.all_nil, dataAt, hx, hy, hc, hd, Bool.and_self, cond_true]
  have he : prun P (execOp (ρ tm) o) = some (.value r) := by
    have : execOp (ρ tm) o = (do let v ← (do eqGuard op t a b u v; Go.binOp op t u v); pure (.value v)) := by simp [execOp, ho, h1, h2]
    rw [this]
    exact prun_bind _ _ _ hr rfl
  have hag : aggEq P tm o = none := by
    unfold aggEq
    simp only [ho, hx, hy]
    split
    · rename_i e _; cases e; exact absurd rfl (hn _)
    · rename_i e _; cases e; exact absurd rfl (hn _)
    · rfl
  simp only [hag, fallback0, ho, Op.operands, List.all_cons, List.all_nil, dataAt, hx, hy, hc, hd, Bool.and_self, cond_true, he, hv, val]
theorem sadd_run {P : Program} {t : TypeId} {a b : Operand} {x y : ByteArray} (h : x.size + y.size ≤ 9223372036854775807) : prun P (do eqGuard .add t a b (.string x) (.string y); Go.binOp .add t (.string x) (.string y)) = some (.string (x ++ y)) := by
  show prun P (Op.stringOp .add x y) = _
  unfold Op.stringOp
  have : ¬ ((x.size + y.size : Nat) : Int) > IntKind.i64.max := by
    have : IntKind.i64.max = 9223372036854775807 := by kernel_rfl
    omega
  simp only [this, if_false]
  rfl
theorem seq_run {P : Program} {t : TypeId} {a b : Operand} {x y : ByteArray} {r : Bool} (h : decide (x = y) = r) : prun P (do eqGuard .eql t a b (.string x) (.string y); Go.binOp .eql t (.string x) (.string y)) = some (.bool r) := by
  show prun P (Op.stringOp .eql x y) = _
  unfold Op.stringOp
  show some (Value.bool (x.toList == y.toList)) = _
  rw [← h]
  congr 2
  rw [Lib.toList_data, Lib.toList_data]
  by_cases e : x = y
  · subst e; simp
  · have : ¬ x.data = y.data := fun e2 => e (by cases x; cases y; congr 1)
    simp [e, this]
theorem sne_run {P : Program} {t : TypeId} {a b : Operand} {x y : ByteArray} {r : Bool} (h : decide (x = y) = !r) : prun P (do eqGuard .neq t a b (.string x) (.string y); Go.binOp .neq t (.string x) (.string y)) = some (.bool r) := by
  show prun P (Op.stringOp .neq x y) = _
  unfold Op.stringOp
  show some (Value.bool !(x.toList == y.toList)) = _
  have h2 : (x.toList == y.toList) = !r := by
    rw [← h, Lib.toList_data, Lib.toList_data]
    by_cases e : x = y
    · subst e; simp
    · have : ¬ x.data = y.data := fun e2 => e (by cases x; cases y; congr 1)
      simp [e, this]
  rw [h2, Bool.not_not]
theorem wi32 {x y : Int} (h : x = y) (h1 : 0 ≤ y) (h2 : y < 2147483648) : IntKind.i32.wrap x = y := by
  subst h
  rw [IntKind.wrap_i32]
  omega
theorem conv_digit {d : Nat} (h : d < 10) : prun Tryd.prog (Go.convert 21 9 (.int .i32 ((48 + d : Nat) : Int))) = some (.string ⟨⟨[UInt8.ofNat (48 + d)]⟩⟩) := by
  rcases (by omega : d = 0 ∨ d = 1 ∨ d = 2 ∨ d = 3 ∨ d = 4 ∨ d = 5 ∨ d = 6 ∨ d = 7 ∨ d = 8 ∨ d = 9) with rfl | rfl | rfl | rfl | rfl | rfl | rfl | rfl | rfl | rfl <;> kernel_rfl
theorem str_cons (c : UInt8) (l : List UInt8) : (⟨⟨[c]⟩⟩ : ByteArray) ++ ⟨⟨l⟩⟩ = ⟨⟨c :: l⟩⟩ := by
  apply ByteArray.ext
  simp
def fin (n : Nat) (l : List UInt8) : List UInt8 := if n = 0 then (if l = [] then [48] else l) else Lib.decDigits n ++ l
theorem fin_len {n k : Nat} {l : List UInt8} (h : fin n l = Lib.decDigits k) (hk : k < 4294967296) : l.length ≤ 20 := by
  have h1 : (Lib.decDigits k).length ≤ 20 := by
    rw [Lib.decDigits_length]
    by_cases h0 : k = 0
    · subst h0; rw [Lib.nDigits_small (by omega)]; omega
    · have := Lib.numDigits_eq k (by omega) (by omega); split at this <;> omega
  rw [← h] at h1
  unfold fin at h1
  split at h1
  · split at h1
    · rename_i e; subst e; simp
    · exact h1
  · simp at h1; omega
theorem size_mk (l : List UInt8) : (⟨⟨l⟩⟩ : ByteArray).size = l.length := rfl
theorem fin_step (n : Nat) (l : List UInt8) (h : 0 < n ∨ l = []) : fin (n / 10) (UInt8.ofNat (48 + n % 10) :: l) = fin n l := by
  unfold fin
  by_cases h0 : n = 0
  · subst h0
    rcases h with h | h
    · omega
    · subst h; rfl
  · rw [if_neg h0]
    by_cases h1 : n < 10
    · have e1 : n / 10 = 0 := by omega
      have e2 : n % 10 = n := by omega
      rw [if_pos e1, if_neg (by simp), e2, Lib.decDigits, dif_pos h1]; rfl
    · rw [if_neg (by omega), Lib.decDigits.eq_def n, dif_neg h1]; simp
theorem fin_start (n : Nat) : fin n [] = Lib.decDigits n := by
  unfold fin
  split
  · rename_i h; subst h; rw [Lib.decDigits, dif_pos (by omega)]; rfl
  · simp
noncomputable def f30b : Code := Tryd.f30.body.getD .skip
noncomputable def f30ba : Code := cl f30b
noncomputable def f30bao : Array Oper := opsOf f30ba
noncomputable def f30bc : Code := cr f30b
noncomputable def f30bca : Code := cl f30bc
noncomputable def f30bcao : Array Oper := opsOf f30bca
noncomputable def f30bcc : Code := cr f30bc
noncomputable def f30bcca : Code := cl f30bcc
noncomputable def f30bccaa : Code := cl f30bcca
noncomputable def f30bccaaa : Code := cl f30bccaa
noncomputable def f30bccaaaa : Code := cl f30bccaaa
noncomputable def f30bccaaaaa : Code := cl f30bccaaaa
noncomputable def f30bccaaaaao : Array Oper := opsOf f30bccaaaaa
noncomputable def f30bccaaaac : Code := cr f30bccaaaa
noncomputable def f30bccaaac : Code := cr f30bccaaa
noncomputable def f30bccaaaca : Code := cl f30bccaaac
noncomputable def f30bccaaacaa : Code := cl f30bccaaaca
noncomputable def f30bccaaacaao : Array Oper := opsOf f30bccaaacaa
noncomputable def f30bccaaacac : Code := cr f30bccaaaca
noncomputable def f30bccaaacaco : Array Oper := opsOf f30bccaaacac
noncomputable def f30bccc : Code := cr f30bcc
noncomputable def f30bccca : Code := cl f30bccc
noncomputable def f30bcccao : Array Oper := opsOf f30bccca
theorem f30ba_eq : f30ba = .region 0 f30bao false := by kernel_rfl
theorem f30bca_eq : f30bca = .region 1 f30bcao false := by kernel_rfl
theorem f30bccaaaaa_eq : f30bccaaaaa = .region 2 f30bccaaaaao false := by kernel_rfl
theorem f30bccaaaac_eq : f30bccaaaac = .cond (cop f30bccaaaac) .skip (.exit 0) := by kernel_rfl
theorem f30bccaaaa_eq : f30bccaaaa = .seq f30bccaaaaa f30bccaaaac := by kernel_rfl
theorem f30bccaaacaa_eq : f30bccaaacaa = .region 3 f30bccaaacaao false := by kernel_rfl
theorem f30bccaaacac_eq : f30bccaaacac = .region 4 f30bccaaacaco false := by kernel_rfl
theorem f30bccaaaca_eq : f30bccaaaca = .seq f30bccaaacaa f30bccaaacac := by kernel_rfl
theorem f30bccaaac_eq : f30bccaaac = .block 1 f30bccaaaca := by kernel_rfl
theorem f30bccaaa_eq : f30bccaaa = .seq f30bccaaaa f30bccaaac := by kernel_rfl
theorem f30bccaa_eq : f30bccaa = .loop f30bccaaa := by kernel_rfl
theorem f30bcca_eq : f30bcca = .block 0 f30bccaa := by kernel_rfl
theorem f30bccca_eq : f30bccca = .region 5 f30bcccao false := by kernel_rfl
theorem f30bccc_eq : f30bccc = .seq f30bccca .ret := by kernel_rfl
theorem f30bcc_eq : f30bcc = .seq f30bcca f30bccc := by kernel_rfl
theorem f30bc_eq : f30bc = .seq f30bca f30bcc := by kernel_rfl
theorem f30b_eq : f30b = .seq f30ba f30bc := by kernel_rfl
theorem f30_body : Tryd.f30.body = some f30b := by kernel_rfl
theorem f30_fn : T16.fn 30 = some Tryd.f30 := by kernel_rfl
theorem f30_nat (k : Nat) (hk : k < 4294967296) : ACall Tryd.prog T16 30 #[.int .u32 (k : Int)] ⟨.lf, 0⟩ fun r _ => r = .string (dec (k : Int)) := by
  refine acall_of' 20 (initTm 0 #[.int .u32 (k : Int)]) rfl f30_fn f30_body rfl rfl ?_
  rw [f30b_eq]
  refine aw_then ?_
  rw [f30ba_eq]
  refine aw_reg ?_
  refine aops_go 1 60 (by kernel_rfl) ?_
  refine aops_end (by kernel_rfl) (then_normal ?_)
  rw [f30bc_eq]
  refine aw_then ?_
  rw [f30bca_eq]
  refine aw_reg ?_
  refine aops_go 1 60 (by kernel_rfl) ?_
  refine aops_end (by kernel_rfl) (then_normal ?_)
  rw [f30bcc_eq]
  refine aw_then ?_
  rw [f30bcca_eq]
  refine aw_block ?_
  rw [f30bccaa_eq]
  refine aw_loop (fun m st => ∃ (n : Nat) (l : List UInt8), m = n + (if l = [] then 1 else 0) ∧ n < 4294967296 ∧ fin n l = Lib.decDigits k ∧ Kn st.tm [(0, .int .u32 (n : Int)), (3, .string ⟨⟨l⟩⟩)] ∧ st.H = ⟨.lf, 0⟩) (k + 1) ⟨k, [], rfl, hk, fin_start k, ⟨by kernel_rfl, by kernel_rfl, True.intro⟩, by kernel_rfl⟩ ?_
  rintro m st ⟨n, l, hm, hn, hf, hkn, hH⟩
  obtain ⟨d, hd⟩ : ∃ d, d = n % 10 := ⟨_, rfl⟩
  have hdl : d < 10 := by omega
  by_cases h0 : 0 < n
  · skip
    refine aw_kn' [(0, .int .u32 (n : Int)), (3, .string ⟨⟨l⟩⟩)] hkn hH fun tm => ?_
    rw [f30bccaaa_eq]
    refine aw_then ?_
    rw [f30bccaaaa_eq]
    refine aw_then ?_
    rw [f30bccaaaaa_eq]
    refine aw_reg ?_
    refine aops_go 3 60 (by kernel_rfl) ?_
    refine aops_see 6 (.bool true) (see_bool (by kernel_rfl) ((by simp; omega) : ((decide (((n : Nat) : Int) > 0))) = true)) ?_
    refine aops_go 3 60 (by kernel_rfl) ?_
    refine aops_end (by kernel_rfl) (then_normal ?_)
    rw [f30bccaaaac_eq]
    refine aw_cond (t := true) (by kernel_rfl) ?_
    refine aw_skip (then_normal ?_)
    rw [f30bccaaac_eq]
    refine aw_block ?_
    rw [f30bccaaaca_eq]
    refine aw_then ?_
    rw [f30bccaaacaa_eq]
    refine aw_reg ?_
    refine aops_go 2 60 (by kernel_rfl) ?_
    refine aops_see 11 (.int .u32 ((d : Nat) : Int)) (see_int (x := Int.tmod (n : Int) 10) (by kernel_rfl) (by rw [Int.tmod_eq_emod_of_nonneg (by omega)]; omega)) ?_
    refine aops_go 1 60 (by kernel_rfl) ?_
    refine aops_see 12 (.int .u32 ((48 + d : Nat) : Int)) (see_int (x := IntKind.u32.wrap (48 + (d : Int))) (by kernel_rfl) (wu32 (by omega) (by omega) (by omega))) ?_
    refine aops_go 1 60 (by kernel_rfl) ?_
    refine aops_see 13 (.int .i32 ((48 + d : Nat) : Int)) (see_int (x := IntKind.i32.wrap ((48 + d : Nat) : Int)) (by kernel_rfl) (wi32 rfl (by omega) (by omega))) ?_
    refine aops_val 14 (.string ⟨⟨[UInt8.ofNat (48 + d)]⟩⟩) ⟨.lf, 0⟩ (by kernel_rfl) (by kernel_rfl) (by kernel_rfl) (ha_conv (s := 21) (d := 9) (x := .tmp 13) (u := .int .i32 ((48 + d : Nat) : Int)) (by kernel_rfl) (by kernel_rfl) (by kernel_rfl) rfl (conv_digit hdl) rfl) ?_
    refine aops_go 1 60 (by kernel_rfl) ?_
    refine aops_val 16 (.string ⟨⟨UInt8.ofNat (48 + d) :: l⟩⟩) ⟨.lf, 0⟩ (by kernel_rfl) (by kernel_rfl) (by kernel_rfl) (ha_fb (op := .add) (t := 9) (a := .tmp 14) (b := .tmp 15) (u := .string (⟨⟨[UInt8.ofNat (48 + d)]⟩⟩ : ByteArray)) (v := .string (⟨⟨l⟩⟩ : ByteArray)) (by kernel_rfl) (by kernel_rfl) (by kernel_rfl) rfl rfl rfl ((sadd_run (by simp only [size_mk]; have := fin_len hf hk; simp at this ⊢; try omega)).trans (by rw [str_cons])) rfl) ?_
    refine aops_go 1 60 (by kernel_rfl) ?_
    refine aops_end (by kernel_rfl) (then_normal ?_)
    rw [f30bccaaacac_eq]
    refine aw_reg ?_
    refine aops_go 2 60 (by kernel_rfl) ?_
    refine aops_see 18 (.int .u32 ((n / 10 : Nat) : Int)) (see_int (x := IntKind.u32.wrap (Int.tdiv (n : Int) 10)) (by kernel_rfl) (wu32 (by rw [Int.tdiv_eq_ediv_of_nonneg (by omega)]; omega) (by omega) (by omega))) ?_
    refine aops_go 1 60 (by kernel_rfl) ?_
    refine aops_end (by kernel_rfl) (blk_normal (then_normal ⟨_, ?_, n / 10, UInt8.ofNat (48 + d) :: l, rfl, by omega, ?_, ⟨by kernel_rfl, by kernel_rfl, True.intro⟩, by kernel_rfl⟩))
    · rw [hm]; simp; try (split <;> omega)
    · rw [← hf]; try subst hd
      exact fin_step n l (.inl h0)
  · obtain rfl : n = 0 := by omega
    cases l with
    | nil =>
      refine aw_kn' [(0, .int .u32 0), (3, .string ⟨⟨[]⟩⟩)] hkn hH fun tm => ?_
      rw [f30bccaaa_eq]
      refine aw_then ?_
      rw [f30bccaaaa_eq]
      refine aw_then ?_
      rw [f30bccaaaaa_eq]
      refine aw_reg ?_
      refine aops_go 4 60 (by kernel_rfl) ?_
      refine aops_val 8 (.bool true) ⟨.lf, 0⟩ (by kernel_rfl) (by kernel_rfl) (by kernel_rfl) (ha_fb (op := .eql) (t := 9) (a := .tmp 7) (b := .const (.string ⟨⟨[]⟩⟩)) (u := .string (⟨⟨[]⟩⟩ : ByteArray)) (v := .string ⟨⟨[]⟩⟩) (by kernel_rfl) (by kernel_rfl) (by kernel_rfl) rfl rfl rfl (seq_run (by simp)) rfl) ?_
      refine aops_go 1 60 (by kernel_rfl) ?_
      refine aops_end (by kernel_rfl) (then_normal ?_)
      rw [f30bccaaaac_eq]
      refine aw_cond (t := true) (by kernel_rfl) ?_
      refine aw_skip (then_normal ?_)
      rw [f30bccaaac_eq]
      refine aw_block ?_
      rw [f30bccaaaca_eq]
      refine aw_then ?_
      rw [f30bccaaacaa_eq]
      refine aw_reg ?_
      refine aops_go 2 60 (by kernel_rfl) ?_
      refine aops_see 11 (.int .u32 0) (by kernel_rfl) ?_
      refine aops_go 1 60 (by kernel_rfl) ?_
      refine aops_see 12 (.int .u32 48) (by kernel_rfl) ?_
      refine aops_go 1 60 (by kernel_rfl) ?_
      refine aops_see 13 (.int .i32 48) (by kernel_rfl) ?_
      refine aops_go 2 60 (by kernel_rfl) ?_
      refine aops_val 16 (.string ⟨⟨UInt8.ofNat (48 + 0) :: []⟩⟩) ⟨.lf, 0⟩ (by kernel_rfl) (by kernel_rfl) (by kernel_rfl) (ha_fb (op := .add) (t := 9) (a := .tmp 14) (b := .tmp 15) (u := .string (⟨⟨[UInt8.ofNat (48 + 0)]⟩⟩ : ByteArray)) (v := .string (⟨⟨[]⟩⟩ : ByteArray)) (by kernel_rfl) (by kernel_rfl) (by kernel_rfl) rfl rfl rfl ((sadd_run (by simp only [size_mk]; have := fin_len hf hk; simp at this ⊢; try omega)).trans (by rw [str_cons])) rfl) ?_
      refine aops_go 1 60 (by kernel_rfl) ?_
      refine aops_end (by kernel_rfl) (then_normal ?_)
      rw [f30bccaaacac_eq]
      refine aw_reg ?_
      refine aops_go 2 60 (by kernel_rfl) ?_
      refine aops_see 18 (.int .u32 0) (by kernel_rfl) ?_
      refine aops_go 1 60 (by kernel_rfl) ?_
      refine aops_end (by kernel_rfl) (blk_normal (then_normal ⟨_, ?_, 0, UInt8.ofNat (48 + 0) :: [], rfl, by omega, ?_, ⟨by kernel_rfl, by kernel_rfl, True.intro⟩, by kernel_rfl⟩))
      · rw [hm]; simp; try (split <;> omega)
      · rw [← hf]; try subst hd
        exact fin_step 0 [] (.inr rfl)
    | cons c0 cs =>
      refine aw_kn' [(0, .int .u32 0), (3, .string ⟨⟨(c0 :: cs)⟩⟩)] hkn hH fun tm => ?_
      rw [f30bccaaa_eq]
      refine aw_then ?_
      rw [f30bccaaaa_eq]
      refine aw_then ?_
      rw [f30bccaaaaa_eq]
      refine aw_reg ?_
      refine aops_go 4 60 (by kernel_rfl) ?_
      refine aops_val 8 (.bool false) ⟨.lf, 0⟩ (by kernel_rfl) (by kernel_rfl) (by kernel_rfl) (ha_fb (op := .eql) (t := 9) (a := .tmp 7) (b := .const (.string ⟨⟨[]⟩⟩)) (u := .string (⟨⟨(c0 :: cs)⟩⟩ : ByteArray)) (v := .string ⟨⟨[]⟩⟩) (by kernel_rfl) (by kernel_rfl) (by kernel_rfl) rfl rfl rfl (seq_run (by simp)) rfl) ?_
      refine aops_go 1 60 (by kernel_rfl) ?_
      refine aops_end (by kernel_rfl) (then_normal ?_)
      rw [f30bccaaaac_eq]
      refine aw_cond (t := false) (by kernel_rfl) ?_
      refine aw_exit (then_exit (then_exit (blk_hit (then_normal ?_))))
      rw [f30bccc_eq]
      refine aw_then ?_
      rw [f30bccca_eq]
      refine aw_reg ?_
      refine aops_go 2 60 (by kernel_rfl) ?_
      refine aops_end (by kernel_rfl) (then_normal ?_)
      refine aw_ret (bodyQ_ret ⟨.string ⟨⟨(c0 :: cs)⟩⟩, (by kernel_rfl), ?_⟩)
      have : fin 0 (c0 :: cs) = c0 :: cs := by simp [fin]
      rw [this] at hf; rw [dec_eq k (by omega), ← hf]
def sp30 : List Value → Option Value
  | [.int .u32 n] => bif u32B n then some (.string (dec n)) else none
  | _ => none
noncomputable def T17 : Tab := { T16 with orc := addOrc T16.orc 30 sp30 }
theorem progOk17 [Bs] [Tb] : ProgOk Tryd.prog T17 := progOk16.know 30 sp30 fun args v h => by
  unfold sp30 at h
  split at h
  · rename_i n
    cases hb : u32B n
    · rw [hb] at h; cases h
    · rw [hb] at h; cases h
      simp only [u32B, Bool.and_eq_true, decide_eq_true_eq] at hb
      obtain ⟨k, rfl⟩ : ∃ k : Nat, n = k := ⟨n.toNat, by omega⟩
      exact ⟨rfl, rfl, f30_nat k (by omega)⟩
  · cases h
end Gc
end Go.Proofs.YtpfmmckbfejfnaaDoor
