/- Chapter 2: bytes read. -/
import Derived.Test.YtpfmmckbfejfnaaDoorGp
import Derived.Test.YtpfmmckbfejfnaaDoorEvSf
import Derived.Laws.BitsLemmas
namespace Go.Proofs.YtpfmmckbfejfnaaDoor
open Go Go.Ev Go.RowKit
set_option linter.unusedVariables false
set_option linter.unusedSimpArgs false
set_option maxRecDepth 100000
namespace Gc
theorem ares_cell2 {T : Tab} {tm : Tr Value} {H : Heap} {rs : Array ResultVar} (t : Nat) (ty : TypeId) (a b : Nat) (p : Value) (H0 : Heap) {v x y : Value} (hrs : rs.toList = [.cell t ty, .tmp a, .tmp b]) (hp : (tm.get t).getD undef = p) (ha : (tm.get a).getD undef = x) (hb : (tm.get b).getD undef = y) (hH : H = H0) (hl : aload T ty p H0 = some v) : aresults T tm H rs = some (.tuple #[v, x, y]) := by
  subst hH
  unfold aresults
  rw [hrs]
  simp only [results1, hp, ha, hb, hl]
/-- A slice of bytes that is read. -/
structure Byts (H : Heap) (v : Value) (l : List Int) : Prop where
  at_ : (∃ cap, v = .slice none 0 cap ∧ l = []) ∨ ∃ A off cap cells e ro, v = .slice (some ⟨A, off, none⟩) l.length cap ∧ H.get A = some ⟨cells, e, ro⟩ ∧ A < H.n ∧ ∀ k (h : k < l.length), cells[off + k * 1]? = some (.int .u8 l[k]) ∧ 0 ≤ l[k] ∧ l[k] < 256
def num4 (a b c d : Int) : Int := a + b * 256 + c * 65536 + d * 16777216
/-- What bytes begin with: operation, number, size, what is wrong. -/
def readL : List Int → Int × Int × Int × Int
  | [] => (0, 0, 0, 10)
  | x :: r => bif sizeV x == 0 then (0, 0, 0, 12) else bif decide (sizeV x > ((r.length + 1 : Nat) : Int)) then (0, 0, 0, 10) else
    (x, bif sizeV x == 1 then 0 else bif sizeV x == 2 then r.getD 0 0 else num4 (r.getD 0 0) (r.getD 1 0) (r.getD 2 0) (r.getD 3 0), sizeV x, 0)
def decR (d : Int × Int × Int × Int) : Value := .tuple #[.agg #[.int .i64 d.1, .int .u32 d.2.1], .int .i64 d.2.2.1, .int .i64 d.2.2.2]
def rdecR (d : Int × Int × Int × Int) : Value := .tuple #[.agg #[.int .i64 d.1, .int .u32 d.2.1], .int .i64 d.2.2.1, .bool (d.2.2.2 == 10)]
theorem or_add (x y : Int) (i : Nat) (hi : i ≤ 32) (hx : x % 2 ^ i = 0) (h0 : 0 ≤ x) (h1 : x < 4294967296) (h2 : 0 ≤ y) (h3 : y < 2 ^ i) (h4 : y < 4294967296) : IntKind.u32.wrap (((BitVec.ofInt 32 x ||| BitVec.ofInt 32 y).toNat : Nat) : Int) = x + y :=
  bits_join .u32 32 (by decide) (fun n h0 h1 => by rw [IntKind.wrap_u32]; omega) i x y h0 hx (by omega) h2 h3 (by omega)
theorem or_add2 (x y : Int) (i : Nat) (hi : i ≤ 32) (hy : y % 2 ^ i = 0) (h0 : 0 ≤ y) (h1 : y < 4294967296) (h2 : 0 ≤ x) (h3 : x < 2 ^ i) (h4 : x < 4294967296) : IntKind.u32.wrap (((BitVec.ofInt 32 x ||| BitVec.ofInt 32 y).toNat : Nat) : Int) = x + y := by
  rw [BitVec.or_comm, or_add y x i hi hy h0 h1 h2 h3 h4, Int.add_comm]
noncomputable def f23b : Code := Tryd.f23.body.getD .skip
noncomputable def f23ba : Code := cl f23b
noncomputable def f23bao : Array Oper := opsOf f23ba
noncomputable def f23bc : Code := cr f23b
noncomputable def f23bca : Code := cl f23bc
noncomputable def f23bcaa : Code := cl f23bca
noncomputable def f23bcaao : Array Oper := opsOf f23bcaa
noncomputable def f23bcac : Code := cr f23bca
noncomputable def f23bcaca : Code := cl f23bcac
noncomputable def f23bcacaa : Code := cl f23bcaca
noncomputable def f23bcacaao : Array Oper := opsOf f23bcacaa
noncomputable def f23bcc : Code := cr f23bc
noncomputable def f23bcca : Code := cl f23bcc
noncomputable def f23bccao : Array Oper := opsOf f23bcca
noncomputable def f23bccc : Code := cr f23bcc
noncomputable def f23bccca : Code := cl f23bccc
noncomputable def f23bcccao : Array Oper := opsOf f23bccca
noncomputable def f23bcccc : Code := cr f23bccc
noncomputable def f23bcccca : Code := cl f23bcccc
noncomputable def f23bccccaa : Code := cl f23bcccca
noncomputable def f23bccccaaa : Code := cl f23bccccaa
noncomputable def f23bccccaaao : Array Oper := opsOf f23bccccaaa
noncomputable def f23bccccaac : Code := cr f23bccccaa
noncomputable def f23bccccaaca : Code := cl f23bccccaac
noncomputable def f23bccccaacaa : Code := cl f23bccccaaca
noncomputable def f23bccccaacaao : Array Oper := opsOf f23bccccaacaa
noncomputable def f23bccccaacc : Code := cr f23bccccaac
noncomputable def f23bccccaacca : Code := cl f23bccccaacc
noncomputable def f23bccccaaccao : Array Oper := opsOf f23bccccaacca
noncomputable def f23bccccaaccc : Code := cr f23bccccaacc
noncomputable def f23bccccaaccca : Code := cl f23bccccaaccc
noncomputable def f23bccccaacccaa : Code := cl f23bccccaaccca
noncomputable def f23bccccaacccaao : Array Oper := opsOf f23bccccaacccaa
noncomputable def f23bccccc : Code := cr f23bcccc
noncomputable def f23bccccca : Code := cl f23bccccc
noncomputable def f23bcccccaa : Code := cl f23bccccca
noncomputable def f23bcccccaao : Array Oper := opsOf f23bcccccaa
noncomputable def f23bcccccac : Code := cr f23bccccca
noncomputable def f23bcccccaca : Code := cl f23bcccccac
noncomputable def f23bcccccacaa : Code := cl f23bcccccaca
noncomputable def f23bcccccacaaa : Code := cl f23bcccccacaa
noncomputable def f23bcccccacaaaa : Code := cl f23bcccccacaaa
noncomputable def f23bcccccacaaaao : Array Oper := opsOf f23bcccccacaaaa
noncomputable def f23bcccccacaaac : Code := cr f23bcccccacaaa
noncomputable def f23bcccccacaac : Code := cr f23bcccccacaa
noncomputable def f23bcccccacaaca : Code := cl f23bcccccacaac
noncomputable def f23bcccccacaacaa : Code := cl f23bcccccacaaca
noncomputable def f23bcccccacaacaao : Array Oper := opsOf f23bcccccacaacaa
noncomputable def f23bcccccacaacc : Code := cr f23bcccccacaac
noncomputable def f23bcccccacaacco : Array Oper := opsOf f23bcccccacaacc
noncomputable def f23bcccccc : Code := cr f23bccccc
noncomputable def f23bcccccca : Code := cl f23bcccccc
noncomputable def f23bccccccao : Array Oper := opsOf f23bcccccca
theorem f23ba_eq : f23ba = .region 0 f23bao false := by kernel_rfl
theorem f23bcaa_eq : f23bcaa = .region 1 f23bcaao false := by kernel_rfl
theorem f23bcacaa_eq : f23bcacaa = .region 2 f23bcacaao false := by kernel_rfl
theorem f23bcaca_eq : f23bcaca = .seq f23bcacaa .ret := by kernel_rfl
theorem f23bcac_eq : f23bcac = .cond (cop f23bcac) f23bcaca .skip := by kernel_rfl
theorem f23bca_eq : f23bca = .seq f23bcaa f23bcac := by kernel_rfl
theorem f23bcca_eq : f23bcca = .region 3 f23bccao false := by kernel_rfl
theorem f23bccca_eq : f23bccca = .region 4 f23bcccao false := by kernel_rfl
theorem f23bccccaaa_eq : f23bccccaaa = .region 5 f23bccccaaao false := by kernel_rfl
theorem f23bccccaacaa_eq : f23bccccaacaa = .region 6 f23bccccaacaao false := by kernel_rfl
theorem f23bccccaaca_eq : f23bccccaaca = .seq f23bccccaacaa .ret := by kernel_rfl
theorem f23bccccaacca_eq : f23bccccaacca = .region 7 f23bccccaaccao false := by kernel_rfl
theorem f23bccccaacccaa_eq : f23bccccaacccaa = .region 8 f23bccccaacccaao false := by kernel_rfl
theorem f23bccccaaccca_eq : f23bccccaaccca = .seq f23bccccaacccaa .ret := by kernel_rfl
theorem f23bccccaaccc_eq : f23bccccaaccc = .cond (cop f23bccccaaccc) f23bccccaaccca .skip := by kernel_rfl
theorem f23bccccaacc_eq : f23bccccaacc = .seq f23bccccaacca f23bccccaaccc := by kernel_rfl
theorem f23bccccaac_eq : f23bccccaac = .cond (cop f23bccccaac) f23bccccaaca f23bccccaacc := by kernel_rfl
theorem f23bccccaa_eq : f23bccccaa = .seq f23bccccaaa f23bccccaac := by kernel_rfl
theorem f23bcccca_eq : f23bcccca = .block 0 f23bccccaa := by kernel_rfl
theorem f23bcccccaa_eq : f23bcccccaa = .region 9 f23bcccccaao false := by kernel_rfl
theorem f23bcccccacaaaa_eq : f23bcccccacaaaa = .region 10 f23bcccccacaaaao false := by kernel_rfl
theorem f23bcccccacaaac_eq : f23bcccccacaaac = .cond (cop f23bcccccacaaac) .skip (.exit 1) := by kernel_rfl
theorem f23bcccccacaaa_eq : f23bcccccacaaa = .seq f23bcccccacaaaa f23bcccccacaaac := by kernel_rfl
theorem f23bcccccacaacaa_eq : f23bcccccacaacaa = .region 12 f23bcccccacaacaao true := by kernel_rfl
theorem f23bcccccacaaca_eq : f23bcccccacaaca = .block 2 f23bcccccacaacaa := by kernel_rfl
theorem f23bcccccacaacc_eq : f23bcccccacaacc = .region 11 f23bcccccacaacco false := by kernel_rfl
theorem f23bcccccacaac_eq : f23bcccccacaac = .seq f23bcccccacaaca f23bcccccacaacc := by kernel_rfl
theorem f23bcccccacaa_eq : f23bcccccacaa = .seq f23bcccccacaaa f23bcccccacaac := by kernel_rfl
theorem f23bcccccaca_eq : f23bcccccaca = .loop f23bcccccacaa := by kernel_rfl
theorem f23bcccccac_eq : f23bcccccac = .block 1 f23bcccccaca := by kernel_rfl
theorem f23bccccca_eq : f23bccccca = .seq f23bcccccaa f23bcccccac := by kernel_rfl
theorem f23bcccccca_eq : f23bcccccca = .region 13 f23bccccccao false := by kernel_rfl
theorem f23bcccccc_eq : f23bcccccc = .seq f23bcccccca .ret := by kernel_rfl
theorem f23bccccc_eq : f23bccccc = .seq f23bccccca f23bcccccc := by kernel_rfl
theorem f23bcccc_eq : f23bcccc = .seq f23bcccca f23bccccc := by kernel_rfl
theorem f23bccc_eq : f23bccc = .seq f23bccca f23bcccc := by kernel_rfl
theorem f23bcc_eq : f23bcc = .seq f23bcca f23bccc := by kernel_rfl
theorem f23bc_eq : f23bc = .seq f23bca f23bcc := by kernel_rfl
theorem f23b_eq : f23b = .seq f23ba f23bc := by kernel_rfl
theorem f23_body : Tryd.f23.body = some f23b := by kernel_rfl
theorem f23_fn : T20.fn 23 = some Tryd.f23 := by kernel_rfl
theorem dec_nil {H : Heap} {pt : Option Addr} {cap : Nat} : ACall Tryd.prog T20 23 #[.slice pt 0 cap] H fun r H' => r = decR (0, 0, 0, 10) ∧ Up H.n H H' := by
  refine acall_of' 48 (initTm 0 #[(.slice pt 0 cap)]) rfl f23_fn f23_body rfl rfl ?_
  refine aw_code f23b_eq ?_
  refine aw_then ?_
  refine aw_code f23ba_eq ?_
  refine aw_reg ?_
  obtain ⟨H1_, hH1_⟩ : ∃ x : Heap, x = H.push ⟨[Value.int .i64 0, .int .u32 0], 26, false⟩ := ⟨_, rfl⟩
  have nH1_ : H1_.n = H.n + 1 := by rw [hH1_]; rfl
  refine aops_val 2 (.pointer (some ⟨H.n, 0, none⟩)) H1_ (by kernel_rfl) (by kernel_rfl) (by kernel_rfl) ((by kernel_rfl : _ = some (Res.val (.pointer (some ⟨H.n, 0, none⟩)), H.push ⟨[Value.int .i64 0, .int .u32 0], 26, false⟩)).trans (by rw [← hH1_])) ?_
  refine aops_go 2 60 (by kernel_rfl) ?_
  refine aops_end (by kernel_rfl) (then_normal ?_)
  refine aw_code f23bc_eq ?_
  refine aw_then ?_
  refine aw_code f23bca_eq ?_
  refine aw_then ?_
  refine aw_code f23bcaa_eq ?_
  refine aw_reg ?_
  refine aops_go 3 60 (by kernel_rfl) ?_
  refine aops_end (by kernel_rfl) (then_normal ?_)
  refine aw_code f23bcac_eq ?_
  refine aw_cond (t := true) (by kernel_rfl) ?_
  refine aw_code f23bcaca_eq ?_
  refine aw_then ?_
  refine aw_code f23bcacaa_eq ?_
  refine aw_reg ?_
  refine aops_go 1 60 (by kernel_rfl) ?_
  have gH1_H_n : H1_.get (H.n) = some ⟨[Value.int .i64 0, .int .u32 0], 26, false⟩ := by rw [hH1_]; exact (Heap.get_push _ _ _).trans (if_pos rfl)
  obtain ⟨H2_, hH2_⟩ : ∃ x : Heap, x = H1_.put (H.n) ⟨[Value.int .i64 0, .int .u32 0], 26, false⟩ := ⟨_, rfl⟩
  have nH2_ : H2_.n = H1_.n := by rw [hH2_]; rfl
  refine aops_skip H2_ (by kernel_rfl) (by kernel_rfl) (by kernel_rfl) ((by kernel_rfl : _ = skp (astore T20 26 (.pointer (some ⟨H.n, 0, none⟩)) (.agg #[.int .i64 0, .int .u32 0]) H1_)).trans (by rw [astore_to gH1_H_n (by kernel_rfl), ← hH2_]; rfl)) ?_
  refine aops_go 2 60 (by kernel_rfl) ?_
  refine aops_end (by kernel_rfl) (then_normal ?_)
  have gH2_H_n : H2_.get (H.n) = some ⟨[Value.int .i64 0, .int .u32 0], 26, false⟩ := by rw [hH2_]; exact (Heap.get_put _ _ _ _).trans (if_pos rfl)
  refine aw_ret (then_ret (bodyQ_ret_to (.tuple #[.agg #[.int .i64 0, .int .u32 0], .int .i64 0, .int .i64 10]) H2_ (ares_cell2 2 26 3 4 (.pointer (some ⟨H.n, 0, none⟩)) H2_ (by kernel_rfl) (by kernel_rfl) (by kernel_rfl) (by kernel_rfl) (by kernel_rfl) ((aload_at gH2_H_n).trans (by kernel_rfl))) (by kernel_rfl) ?_))
  exact ⟨rfl, ⟨by omega, fun b hb => by rw [hH2_, Heap.get_put, if_neg (by omega), hH1_, Heap.get_push, if_neg (by omega)]⟩⟩
theorem dec_0 {H : Heap} {A off n cap : Nat} {cells : List Value} {e : TypeId} {ro : Bool} {x0 : Int} (gA : H.get A = some ⟨cells, e, ro⟩) (hA : A < H.n) (hn : 1 ≤ n) (c0 : cells[off + 0 * 1]? = some (.int .u8 x0)) (l0 : 0 ≤ x0) (m0 : x0 < 256) (hz : sizeV x0 = 0) : ACall Tryd.prog T20 23 #[.slice (some ⟨A, off, none⟩) n cap] H fun r H' => r = decR (0, 0, 0, 12) ∧ Up H.n H H' := by
  refine acall_of' 48 (initTm 0 #[.slice (some ⟨A, off, none⟩) n cap]) rfl f23_fn f23_body rfl rfl ?_
  refine aw_code f23b_eq ?_
  refine aw_then ?_
  refine aw_code f23ba_eq ?_
  refine aw_reg ?_
  obtain ⟨H1_, hH1_⟩ : ∃ x : Heap, x = H.push ⟨[Value.int .i64 0, .int .u32 0], 26, false⟩ := ⟨_, rfl⟩
  have nH1_ : H1_.n = H.n + 1 := by rw [hH1_]; rfl
  refine aops_val 2 (.pointer (some ⟨H.n, 0, none⟩)) H1_ (by kernel_rfl) (by kernel_rfl) (by kernel_rfl) ((by kernel_rfl : _ = some (Res.val (.pointer (some ⟨H.n, 0, none⟩)), H.push ⟨[Value.int .i64 0, .int .u32 0], 26, false⟩)).trans (by rw [← hH1_])) ?_
  refine aops_go 2 60 (by kernel_rfl) ?_
  refine aops_end (by kernel_rfl) (then_normal ?_)
  refine aw_code f23bc_eq ?_
  refine aw_then ?_
  refine aw_code f23bca_eq ?_
  refine aw_then ?_
  refine aw_code f23bcaa_eq ?_
  refine aw_reg ?_
  refine aops_go 3 60 (by kernel_rfl) ?_
  refine aops_end (by kernel_rfl) (then_normal ?_)
  refine aw_code f23bcac_eq ?_
  refine aw_cond (t := false) (see_bool (by kernel_rfl) ((by simp; omega) : ((((n : Nat) : Int) == 0)) = false)) ?_
  refine aw_skip (then_normal ?_)
  refine aw_code f23bcc_eq ?_
  refine aw_then ?_
  refine aw_code f23bcca_eq ?_
  refine aw_reg ?_
  refine aops_go 1 60 (by kernel_rfl) ?_
  refine aops_val 13 (.pointer (some ⟨A, off + 0 * 1, none⟩)) H1_ (by kernel_rfl) (by kernel_rfl) (by kernel_rfl) ((by kernel_rfl : _ = val (bif (0 : Nat).blt n then some (.pointer (some ⟨A, off + 0 * 1, none⟩)) else none) H1_).trans (by rw [show (0 : Nat).blt n = true from (by rw [blt_dec]; simp only [decide_eq_true_eq]; omega)]; rfl)) ?_
  have gH1_A : H1_.get (A) = some ⟨cells, e, ro⟩ := by rw [hH1_, Heap.get_push, if_neg (by omega)]; exact gA
  refine aops_val 14 (.int .u8 x0) H1_ (by kernel_rfl) (by kernel_rfl) (by kernel_rfl) ((by kernel_rfl : _ = val (aload T20 5 (.pointer (some ⟨A, off + 0 * 1, none⟩)) H1_) H1_).trans (val_of ((aload_at gH1_A).trans (aloadC_cellB (n := 1) (by kernel_rfl) (by kernel_rfl) c0)))) ?_
  refine aops_go 1 60 (by kernel_rfl) ?_
  refine aops_see 15 (.int .i64 x0) (see_int (x := IntKind.i64.wrap x0) (by kernel_rfl) (w64 rfl (by omega) (by omega))) ?_
  refine aops_go 1 60 (by kernel_rfl) ?_
  obtain ⟨H2_, hH2_⟩ : ∃ x : Heap, x = H1_.push ⟨[Value.int .i64 0, .int .u32 0], 26, false⟩ := ⟨_, rfl⟩
  have nH2_ : H2_.n = H1_.n + 1 := by rw [hH2_]; rfl
  refine aops_val 5 (.pointer (some ⟨H1_.n, 0, none⟩)) H2_ (by kernel_rfl) (by kernel_rfl) (by kernel_rfl) ((by kernel_rfl : _ = some (Res.val (.pointer (some ⟨H1_.n, 0, none⟩)), H1_.push ⟨[Value.int .i64 0, .int .u32 0], 26, false⟩)).trans (by rw [← hH2_])) ?_
  have gH2_H1__n : H2_.get (H1_.n) = some ⟨[Value.int .i64 0, .int .u32 0], 26, false⟩ := by rw [hH2_]; exact (Heap.get_push _ _ _).trans (if_pos rfl)
  obtain ⟨H3_, hH3_⟩ : ∃ x : Heap, x = H2_.put (H1_.n) ⟨[Value.int .i64 x0, .int .u32 0], 26, false⟩ := ⟨_, rfl⟩
  have nH3_ : H3_.n = H2_.n := by rw [hH3_]; rfl
  refine aops_skip H3_ (by kernel_rfl) (by kernel_rfl) (by kernel_rfl) ((by kernel_rfl : _ = skp (astore T20 26 (.pointer (some ⟨H1_.n, 0, none⟩)) (.agg #[.int .i64 x0, .int .u32 0]) H2_)).trans (by rw [astore_to gH2_H1__n (by kernel_rfl), ← hH3_]; rfl)) ?_
  refine aops_end (by kernel_rfl) (then_normal ?_)
  refine aw_code f23bccc_eq ?_
  refine aw_then ?_
  refine aw_code f23bccca_eq ?_
  refine aw_reg ?_
  refine aops_go 1 60 (by kernel_rfl) ?_
  have gH3_H1__n : H3_.get (H1_.n) = some ⟨[Value.int .i64 x0, .int .u32 0], 26, false⟩ := by rw [hH3_]; exact (Heap.get_put _ _ _ _).trans (if_pos rfl)
  refine aops_val 18 (.int .i64 x0) H3_ (by kernel_rfl) (by kernel_rfl) (by kernel_rfl) ((by kernel_rfl : _ = val (aload T20 3 (.pointer (some ⟨H1_.n, 0, none⟩)) H3_) H3_).trans (val_of ((aload_at gH3_H1__n).trans (by kernel_rfl)))) ?_
  refine aops_ask 19 (.int .i64 0) 15 #[.int .i64 x0] (by kernel_rfl) (by kernel_rfl) (by kernel_rfl) (by kernel_rfl) (show some (Value.int .i64 (sizeV x0)) = _ by rw [hz]) ?_
  refine aops_go 1 60 (by kernel_rfl) ?_
  refine aops_end (by kernel_rfl) (then_normal ?_)
  refine aw_code f23bcccc_eq ?_
  refine aw_then ?_
  refine aw_code f23bcccca_eq ?_
  refine aw_block ?_
  refine aw_code f23bccccaa_eq ?_
  refine aw_then ?_
  refine aw_code f23bccccaaa_eq ?_
  refine aw_reg ?_
  refine aops_go 3 60 (by kernel_rfl) ?_
  refine aops_end (by kernel_rfl) (then_normal ?_)
  refine aw_code f23bccccaac_eq ?_
  refine aw_cond (t := true) (by kernel_rfl) ?_
  refine aw_code f23bccccaaca_eq ?_
  refine aw_then ?_
  refine aw_code f23bccccaacaa_eq ?_
  refine aw_reg ?_
  refine aops_go 1 60 (by kernel_rfl) ?_
  have gH3_H_n : H3_.get (H.n) = some ⟨[Value.int .i64 0, .int .u32 0], 26, false⟩ := by rw [hH3_, Heap.get_put, if_neg (by omega)]; rw [hH2_, Heap.get_push, if_neg (by omega)]; rw [hH1_]; exact (Heap.get_push _ _ _).trans (if_pos rfl)
  obtain ⟨H4_, hH4_⟩ : ∃ x : Heap, x = H3_.put (H.n) ⟨[Value.int .i64 0, .int .u32 0], 26, false⟩ := ⟨_, rfl⟩
  have nH4_ : H4_.n = H3_.n := by rw [hH4_]; rfl
  refine aops_skip H4_ (by kernel_rfl) (by kernel_rfl) (by kernel_rfl) ((by kernel_rfl : _ = skp (astore T20 26 (.pointer (some ⟨H.n, 0, none⟩)) (.agg #[.int .i64 0, .int .u32 0]) H3_)).trans (by rw [astore_to gH3_H_n (by kernel_rfl), ← hH4_]; rfl)) ?_
  refine aops_go 2 60 (by kernel_rfl) ?_
  refine aops_end (by kernel_rfl) (then_normal ?_)
  have gH4_H_n : H4_.get (H.n) = some ⟨[Value.int .i64 0, .int .u32 0], 26, false⟩ := by rw [hH4_]; exact (Heap.get_put _ _ _ _).trans (if_pos rfl)
  refine aw_ret (blk_ret (then_ret (bodyQ_ret_to (.tuple #[.agg #[.int .i64 0, .int .u32 0], .int .i64 0, .int .i64 12]) H4_ (ares_cell2 2 26 3 4 (.pointer (some ⟨H.n, 0, none⟩)) H4_ (by kernel_rfl) (by kernel_rfl) (by kernel_rfl) (by kernel_rfl) (by kernel_rfl) ((aload_at gH4_H_n).trans (by kernel_rfl))) (by kernel_rfl) ?_)))
  exact ⟨rfl, ⟨by omega, fun b hb => by rw [hH4_, Heap.get_put, if_neg (by omega), hH3_, Heap.get_put, if_neg (by omega), hH2_, Heap.get_push, if_neg (by omega), hH1_, Heap.get_push, if_neg (by omega)]⟩⟩
theorem dec_1 {H : Heap} {A off n cap : Nat} {cells : List Value} {e : TypeId} {ro : Bool} {x0 : Int} (gA : H.get A = some ⟨cells, e, ro⟩) (hA : A < H.n) (hn : 1 ≤ n) (c0 : cells[off + 0 * 1]? = some (.int .u8 x0)) (l0 : 0 ≤ x0) (m0 : x0 < 256) (hz : sizeV x0 = 1) : ACall Tryd.prog T20 23 #[.slice (some ⟨A, off, none⟩) n cap] H fun r H' => r = decR (x0, 0, 1, 0) ∧ Up H.n H H' := by
  refine acall_of' 48 (initTm 0 #[.slice (some ⟨A, off, none⟩) n cap]) rfl f23_fn f23_body rfl rfl ?_
  refine aw_code f23b_eq ?_
  refine aw_then ?_
  refine aw_code f23ba_eq ?_
  refine aw_reg ?_
  obtain ⟨H1_, hH1_⟩ : ∃ x : Heap, x = H.push ⟨[Value.int .i64 0, .int .u32 0], 26, false⟩ := ⟨_, rfl⟩
  have nH1_ : H1_.n = H.n + 1 := by rw [hH1_]; rfl
  refine aops_val 2 (.pointer (some ⟨H.n, 0, none⟩)) H1_ (by kernel_rfl) (by kernel_rfl) (by kernel_rfl) ((by kernel_rfl : _ = some (Res.val (.pointer (some ⟨H.n, 0, none⟩)), H.push ⟨[Value.int .i64 0, .int .u32 0], 26, false⟩)).trans (by rw [← hH1_])) ?_
  refine aops_go 2 60 (by kernel_rfl) ?_
  refine aops_end (by kernel_rfl) (then_normal ?_)
  refine aw_code f23bc_eq ?_
  refine aw_then ?_
  refine aw_code f23bca_eq ?_
  refine aw_then ?_
  refine aw_code f23bcaa_eq ?_
  refine aw_reg ?_
  refine aops_go 3 60 (by kernel_rfl) ?_
  refine aops_end (by kernel_rfl) (then_normal ?_)
  refine aw_code f23bcac_eq ?_
  refine aw_cond (t := false) (see_bool (by kernel_rfl) ((by simp; omega) : ((((n : Nat) : Int) == 0)) = false)) ?_
  refine aw_skip (then_normal ?_)
  refine aw_code f23bcc_eq ?_
  refine aw_then ?_
  refine aw_code f23bcca_eq ?_
  refine aw_reg ?_
  refine aops_go 1 60 (by kernel_rfl) ?_
  refine aops_val 13 (.pointer (some ⟨A, off + 0 * 1, none⟩)) H1_ (by kernel_rfl) (by kernel_rfl) (by kernel_rfl) ((by kernel_rfl : _ = val (bif (0 : Nat).blt n then some (.pointer (some ⟨A, off + 0 * 1, none⟩)) else none) H1_).trans (by rw [show (0 : Nat).blt n = true from (by rw [blt_dec]; simp only [decide_eq_true_eq]; omega)]; rfl)) ?_
  have gH1_A : H1_.get (A) = some ⟨cells, e, ro⟩ := by rw [hH1_, Heap.get_push, if_neg (by omega)]; exact gA
  refine aops_val 14 (.int .u8 x0) H1_ (by kernel_rfl) (by kernel_rfl) (by kernel_rfl) ((by kernel_rfl : _ = val (aload T20 5 (.pointer (some ⟨A, off + 0 * 1, none⟩)) H1_) H1_).trans (val_of ((aload_at gH1_A).trans (aloadC_cellB (n := 1) (by kernel_rfl) (by kernel_rfl) c0)))) ?_
  refine aops_go 1 60 (by kernel_rfl) ?_
  refine aops_see 15 (.int .i64 x0) (see_int (x := IntKind.i64.wrap x0) (by kernel_rfl) (w64 rfl (by omega) (by omega))) ?_
  refine aops_go 1 60 (by kernel_rfl) ?_
  obtain ⟨H2_, hH2_⟩ : ∃ x : Heap, x = H1_.push ⟨[Value.int .i64 0, .int .u32 0], 26, false⟩ := ⟨_, rfl⟩
  have nH2_ : H2_.n = H1_.n + 1 := by rw [hH2_]; rfl
  refine aops_val 5 (.pointer (some ⟨H1_.n, 0, none⟩)) H2_ (by kernel_rfl) (by kernel_rfl) (by kernel_rfl) ((by kernel_rfl : _ = some (Res.val (.pointer (some ⟨H1_.n, 0, none⟩)), H1_.push ⟨[Value.int .i64 0, .int .u32 0], 26, false⟩)).trans (by rw [← hH2_])) ?_
  have gH2_H1__n : H2_.get (H1_.n) = some ⟨[Value.int .i64 0, .int .u32 0], 26, false⟩ := by rw [hH2_]; exact (Heap.get_push _ _ _).trans (if_pos rfl)
  obtain ⟨H3_, hH3_⟩ : ∃ x : Heap, x = H2_.put (H1_.n) ⟨[Value.int .i64 x0, .int .u32 0], 26, false⟩ := ⟨_, rfl⟩
  have nH3_ : H3_.n = H2_.n := by rw [hH3_]; rfl
  refine aops_skip H3_ (by kernel_rfl) (by kernel_rfl) (by kernel_rfl) ((by kernel_rfl : _ = skp (astore T20 26 (.pointer (some ⟨H1_.n, 0, none⟩)) (.agg #[.int .i64 x0, .int .u32 0]) H2_)).trans (by rw [astore_to gH2_H1__n (by kernel_rfl), ← hH3_]; rfl)) ?_
  refine aops_end (by kernel_rfl) (then_normal ?_)
  refine aw_code f23bccc_eq ?_
  refine aw_then ?_
  refine aw_code f23bccca_eq ?_
  refine aw_reg ?_
  refine aops_go 1 60 (by kernel_rfl) ?_
  have gH3_H1__n : H3_.get (H1_.n) = some ⟨[Value.int .i64 x0, .int .u32 0], 26, false⟩ := by rw [hH3_]; exact (Heap.get_put _ _ _ _).trans (if_pos rfl)
  refine aops_val 18 (.int .i64 x0) H3_ (by kernel_rfl) (by kernel_rfl) (by kernel_rfl) ((by kernel_rfl : _ = val (aload T20 3 (.pointer (some ⟨H1_.n, 0, none⟩)) H3_) H3_).trans (val_of ((aload_at gH3_H1__n).trans (by kernel_rfl)))) ?_
  refine aops_ask 19 (.int .i64 1) 15 #[.int .i64 x0] (by kernel_rfl) (by kernel_rfl) (by kernel_rfl) (by kernel_rfl) (show some (Value.int .i64 (sizeV x0)) = _ by rw [hz]) ?_
  refine aops_go 1 60 (by kernel_rfl) ?_
  refine aops_end (by kernel_rfl) (then_normal ?_)
  refine aw_code f23bcccc_eq ?_
  refine aw_then ?_
  refine aw_code f23bcccca_eq ?_
  refine aw_block ?_
  refine aw_code f23bccccaa_eq ?_
  refine aw_then ?_
  refine aw_code f23bccccaaa_eq ?_
  refine aw_reg ?_
  refine aops_go 3 60 (by kernel_rfl) ?_
  refine aops_end (by kernel_rfl) (then_normal ?_)
  refine aw_code f23bccccaac_eq ?_
  refine aw_cond (t := false) (by kernel_rfl) ?_
  refine aw_code f23bccccaacc_eq ?_
  refine aw_then ?_
  refine aw_code f23bccccaacca_eq ?_
  refine aw_reg ?_
  refine aops_go 5 60 (by kernel_rfl) ?_
  refine aops_end (by kernel_rfl) (then_normal ?_)
  refine aw_code f23bccccaaccc_eq ?_
  refine aw_cond (t := false) (see_bool (by kernel_rfl) ((by simp; omega) : ((decide ((1 : Int) > ((n : Nat) : Int)))) = false)) ?_
  refine aw_skip (blk_normal (then_normal ?_))
  refine aw_code f23bccccc_eq ?_
  refine aw_then ?_
  refine aw_code f23bccccca_eq ?_
  refine aw_then ?_
  refine aw_code f23bcccccaa_eq ?_
  refine aw_reg ?_
  refine aops_go 3 60 (by kernel_rfl) ?_
  refine aops_end (by kernel_rfl) (then_normal ?_)
  refine aw_code f23bcccccac_eq ?_
  refine aw_block ?_
  refine aw_code f23bcccccaca_eq ?_
  refine aw_loop_k fun K1_ hK1_ => ?_
  refine aw_code f23bcccccacaa_eq ?_
  refine aw_then ?_
  refine aw_code f23bcccccacaaa_eq ?_
  refine aw_then ?_
  refine aw_code f23bcccccacaaaa_eq ?_
  refine aw_reg ?_
  refine aops_go 2 60 (by kernel_rfl) ?_
  refine aops_end (by kernel_rfl) (then_normal ?_)
  refine aw_code f23bcccccacaaac_eq ?_
  refine aw_cond (t := false) (by kernel_rfl) ?_
  refine aw_exit (then_exit (then_exit (blk_hit (then_normal ?_))))
  refine aw_code f23bcccccc_eq ?_
  refine aw_then ?_
  refine aw_code f23bcccccca_eq ?_
  refine aw_reg ?_
  refine aops_val 46 (.agg #[.int .i64 x0, .int .u32 0]) H3_ (by kernel_rfl) (by kernel_rfl) (by kernel_rfl) ((by kernel_rfl : _ = val (aload T20 26 (.pointer (some ⟨H1_.n, 0, none⟩)) H3_) H3_).trans (val_of ((aload_at gH3_H1__n).trans (by kernel_rfl)))) ?_
  refine aops_go 1 60 (by kernel_rfl) ?_
  have gH3_H_n : H3_.get (H.n) = some ⟨[Value.int .i64 0, .int .u32 0], 26, false⟩ := by rw [hH3_, Heap.get_put, if_neg (by omega)]; rw [hH2_, Heap.get_push, if_neg (by omega)]; rw [hH1_]; exact (Heap.get_push _ _ _).trans (if_pos rfl)
  obtain ⟨H4_, hH4_⟩ : ∃ x : Heap, x = H3_.put (H.n) ⟨[Value.int .i64 x0, .int .u32 0], 26, false⟩ := ⟨_, rfl⟩
  have nH4_ : H4_.n = H3_.n := by rw [hH4_]; rfl
  refine aops_skip H4_ (by kernel_rfl) (by kernel_rfl) (by kernel_rfl) ((by kernel_rfl : _ = skp (astore T20 26 (.pointer (some ⟨H.n, 0, none⟩)) (.agg #[.int .i64 x0, .int .u32 0]) H3_)).trans (by rw [astore_to gH3_H_n (by kernel_rfl), ← hH4_]; rfl)) ?_
  refine aops_go 2 60 (by kernel_rfl) ?_
  refine aops_end (by kernel_rfl) (then_normal ?_)
  have gH4_H_n : H4_.get (H.n) = some ⟨[Value.int .i64 x0, .int .u32 0], 26, false⟩ := by rw [hH4_]; exact (Heap.get_put _ _ _ _).trans (if_pos rfl)
  refine aw_ret (bodyQ_ret_to (.tuple #[.agg #[.int .i64 x0, .int .u32 0], .int .i64 1, .int .i64 0]) H4_ (ares_cell2 2 26 3 4 (.pointer (some ⟨H.n, 0, none⟩)) H4_ (by kernel_rfl) (by kernel_rfl) (by kernel_rfl) (by kernel_rfl) (by kernel_rfl) ((aload_at gH4_H_n).trans (by kernel_rfl))) (by kernel_rfl) ?_)
  exact ⟨rfl, ⟨by omega, fun b hb => by rw [hH4_, Heap.get_put, if_neg (by omega), hH3_, Heap.get_put, if_neg (by omega), hH2_, Heap.get_push, if_neg (by omega), hH1_, Heap.get_push, if_neg (by omega)]⟩⟩
theorem dec_2 {H : Heap} {A off n cap : Nat} {cells : List Value} {e : TypeId} {ro : Bool} {x0 : Int} (gA : H.get A = some ⟨cells, e, ro⟩) (hA : A < H.n) (hn : 2 ≤ n) (c0 : cells[off + 0 * 1]? = some (.int .u8 x0)) (l0 : 0 ≤ x0) (m0 : x0 < 256) {b1 : Int} (c1 : cells[off + 1 * 1]? = some (.int .u8 b1)) (l1 : 0 ≤ b1) (m1 : b1 < 256) (hz : sizeV x0 = 2) : ACall Tryd.prog T20 23 #[.slice (some ⟨A, off, none⟩) n cap] H fun r H' => r = decR (x0, b1, 2, 0) ∧ Up H.n H H' := by
  refine acall_of' 48 (initTm 0 #[.slice (some ⟨A, off, none⟩) n cap]) rfl f23_fn f23_body rfl rfl ?_
  refine aw_code f23b_eq ?_
  refine aw_then ?_
  refine aw_code f23ba_eq ?_
  refine aw_reg ?_
  obtain ⟨H1_, hH1_⟩ : ∃ x : Heap, x = H.push ⟨[Value.int .i64 0, .int .u32 0], 26, false⟩ := ⟨_, rfl⟩
  have nH1_ : H1_.n = H.n + 1 := by rw [hH1_]; rfl
  refine aops_val 2 (.pointer (some ⟨H.n, 0, none⟩)) H1_ (by kernel_rfl) (by kernel_rfl) (by kernel_rfl) ((by kernel_rfl : _ = some (Res.val (.pointer (some ⟨H.n, 0, none⟩)), H.push ⟨[Value.int .i64 0, .int .u32 0], 26, false⟩)).trans (by rw [← hH1_])) ?_
  refine aops_go 2 60 (by kernel_rfl) ?_
  refine aops_end (by kernel_rfl) (then_normal ?_)
  refine aw_code f23bc_eq ?_
  refine aw_then ?_
  refine aw_code f23bca_eq ?_
  refine aw_then ?_
  refine aw_code f23bcaa_eq ?_
  refine aw_reg ?_
  refine aops_go 3 60 (by kernel_rfl) ?_
  refine aops_end (by kernel_rfl) (then_normal ?_)
  refine aw_code f23bcac_eq ?_
  refine aw_cond (t := false) (see_bool (by kernel_rfl) ((by simp; omega) : ((((n : Nat) : Int) == 0)) = false)) ?_
  refine aw_skip (then_normal ?_)
  refine aw_code f23bcc_eq ?_
  refine aw_then ?_
  refine aw_code f23bcca_eq ?_
  refine aw_reg ?_
  refine aops_go 1 60 (by kernel_rfl) ?_
  refine aops_val 13 (.pointer (some ⟨A, off + 0 * 1, none⟩)) H1_ (by kernel_rfl) (by kernel_rfl) (by kernel_rfl) ((by kernel_rfl : _ = val (bif (0 : Nat).blt n then some (.pointer (some ⟨A, off + 0 * 1, none⟩)) else none) H1_).trans (by rw [show (0 : Nat).blt n = true from (by rw [blt_dec]; simp only [decide_eq_true_eq]; omega)]; rfl)) ?_
  have gH1_A : H1_.get (A) = some ⟨cells, e, ro⟩ := by rw [hH1_, Heap.get_push, if_neg (by omega)]; exact gA
  refine aops_val 14 (.int .u8 x0) H1_ (by kernel_rfl) (by kernel_rfl) (by kernel_rfl) ((by kernel_rfl : _ = val (aload T20 5 (.pointer (some ⟨A, off + 0 * 1, none⟩)) H1_) H1_).trans (val_of ((aload_at gH1_A).trans (aloadC_cellB (n := 1) (by kernel_rfl) (by kernel_rfl) c0)))) ?_
  refine aops_go 1 60 (by kernel_rfl) ?_
  refine aops_see 15 (.int .i64 x0) (see_int (x := IntKind.i64.wrap x0) (by kernel_rfl) (w64 rfl (by omega) (by omega))) ?_
  refine aops_go 1 60 (by kernel_rfl) ?_
  obtain ⟨H2_, hH2_⟩ : ∃ x : Heap, x = H1_.push ⟨[Value.int .i64 0, .int .u32 0], 26, false⟩ := ⟨_, rfl⟩
  have nH2_ : H2_.n = H1_.n + 1 := by rw [hH2_]; rfl
  refine aops_val 5 (.pointer (some ⟨H1_.n, 0, none⟩)) H2_ (by kernel_rfl) (by kernel_rfl) (by kernel_rfl) ((by kernel_rfl : _ = some (Res.val (.pointer (some ⟨H1_.n, 0, none⟩)), H1_.push ⟨[Value.int .i64 0, .int .u32 0], 26, false⟩)).trans (by rw [← hH2_])) ?_
  have gH2_H1__n : H2_.get (H1_.n) = some ⟨[Value.int .i64 0, .int .u32 0], 26, false⟩ := by rw [hH2_]; exact (Heap.get_push _ _ _).trans (if_pos rfl)
  obtain ⟨H3_, hH3_⟩ : ∃ x : Heap, x = H2_.put (H1_.n) ⟨[Value.int .i64 x0, .int .u32 0], 26, false⟩ := ⟨_, rfl⟩
  have nH3_ : H3_.n = H2_.n := by rw [hH3_]; rfl
  refine aops_skip H3_ (by kernel_rfl) (by kernel_rfl) (by kernel_rfl) ((by kernel_rfl : _ = skp (astore T20 26 (.pointer (some ⟨H1_.n, 0, none⟩)) (.agg #[.int .i64 x0, .int .u32 0]) H2_)).trans (by rw [astore_to gH2_H1__n (by kernel_rfl), ← hH3_]; rfl)) ?_
  refine aops_end (by kernel_rfl) (then_normal ?_)
  refine aw_code f23bccc_eq ?_
  refine aw_then ?_
  refine aw_code f23bccca_eq ?_
  refine aw_reg ?_
  refine aops_go 1 60 (by kernel_rfl) ?_
  have gH3_H1__n : H3_.get (H1_.n) = some ⟨[Value.int .i64 x0, .int .u32 0], 26, false⟩ := by rw [hH3_]; exact (Heap.get_put _ _ _ _).trans (if_pos rfl)
  refine aops_val 18 (.int .i64 x0) H3_ (by kernel_rfl) (by kernel_rfl) (by kernel_rfl) ((by kernel_rfl : _ = val (aload T20 3 (.pointer (some ⟨H1_.n, 0, none⟩)) H3_) H3_).trans (val_of ((aload_at gH3_H1__n).trans (by kernel_rfl)))) ?_
  refine aops_ask 19 (.int .i64 2) 15 #[.int .i64 x0] (by kernel_rfl) (by kernel_rfl) (by kernel_rfl) (by kernel_rfl) (show some (Value.int .i64 (sizeV x0)) = _ by rw [hz]) ?_
  refine aops_go 1 60 (by kernel_rfl) ?_
  refine aops_end (by kernel_rfl) (then_normal ?_)
  refine aw_code f23bcccc_eq ?_
  refine aw_then ?_
  refine aw_code f23bcccca_eq ?_
  refine aw_block ?_
  refine aw_code f23bccccaa_eq ?_
  refine aw_then ?_
  refine aw_code f23bccccaaa_eq ?_
  refine aw_reg ?_
  refine aops_go 3 60 (by kernel_rfl) ?_
  refine aops_end (by kernel_rfl) (then_normal ?_)
  refine aw_code f23bccccaac_eq ?_
  refine aw_cond (t := false) (by kernel_rfl) ?_
  refine aw_code f23bccccaacc_eq ?_
  refine aw_then ?_
  refine aw_code f23bccccaacca_eq ?_
  refine aw_reg ?_
  refine aops_go 5 60 (by kernel_rfl) ?_
  refine aops_end (by kernel_rfl) (then_normal ?_)
  refine aw_code f23bccccaaccc_eq ?_
  refine aw_cond (t := false) (see_bool (by kernel_rfl) ((by simp; omega) : ((decide ((2 : Int) > ((n : Nat) : Int)))) = false)) ?_
  refine aw_skip (blk_normal (then_normal ?_))
  refine aw_code f23bccccc_eq ?_
  refine aw_then ?_
  refine aw_code f23bccccca_eq ?_
  refine aw_then ?_
  refine aw_code f23bcccccaa_eq ?_
  refine aw_reg ?_
  refine aops_go 3 60 (by kernel_rfl) ?_
  refine aops_end (by kernel_rfl) (then_normal ?_)
  refine aw_code f23bcccccac_eq ?_
  refine aw_block ?_
  refine aw_code f23bcccccaca_eq ?_
  refine aw_loop_k fun K1_ hK1_ => ?_
  refine aw_code f23bcccccacaa_eq ?_
  refine aw_then ?_
  refine aw_code f23bcccccacaaa_eq ?_
  refine aw_then ?_
  refine aw_code f23bcccccacaaaa_eq ?_
  refine aw_reg ?_
  refine aops_go 2 60 (by kernel_rfl) ?_
  refine aops_end (by kernel_rfl) (then_normal ?_)
  refine aw_code f23bcccccacaaac_eq ?_
  refine aw_cond (t := true) (by kernel_rfl) ?_
  refine aw_skip (then_normal ?_)
  refine aw_code f23bcccccacaac_eq ?_
  refine aw_then ?_
  refine aw_code f23bcccccacaaca_eq ?_
  refine aw_block ?_
  refine aw_code f23bcccccacaacaa_eq ?_
  refine aw_draw0w (by kernel_rfl) ?_
  refine aops_go 1 60 (by kernel_rfl) ?_
  refine aops_val 37 (.int .u32 0) H3_ (by kernel_rfl) (by kernel_rfl) (by kernel_rfl) ((by kernel_rfl : _ = val (aload T20 22 (.pointer (some ⟨H1_.n, 1, none⟩)) H3_) H3_).trans (val_of ((aload_at gH3_H1__n).trans (by kernel_rfl)))) ?_
  refine aops_go 1 60 (by kernel_rfl) ?_
  refine aops_see 38 (.int .u32 0) (by kernel_rfl) ?_
  refine aops_go 2 60 (by kernel_rfl) ?_
  refine aops_val 41 (.pointer (some ⟨A, off + 1 * 1, none⟩)) H3_ (by kernel_rfl) (by kernel_rfl) (by kernel_rfl) ((by kernel_rfl : _ = val (bif (1 : Nat).blt n then some (.pointer (some ⟨A, off + 1 * 1, none⟩)) else none) H3_).trans (by rw [show (1 : Nat).blt n = true from (by rw [blt_dec]; simp only [decide_eq_true_eq]; omega)]; rfl)) ?_
  have gH3_A : H3_.get (A) = some ⟨cells, e, ro⟩ := by rw [hH3_, Heap.get_put, if_neg (by omega)]; rw [hH2_, Heap.get_push, if_neg (by omega)]; exact gH1_A
  refine aops_val 42 (.int .u8 b1) H3_ (by kernel_rfl) (by kernel_rfl) (by kernel_rfl) ((by kernel_rfl : _ = val (aload T20 5 (.pointer (some ⟨A, off + 1 * 1, none⟩)) H3_) H3_).trans (val_of ((aload_at gH3_A).trans (aloadC_cellB (n := 1) (by kernel_rfl) (by kernel_rfl) c1)))) ?_
  refine aops_go 1 60 (by kernel_rfl) ?_
  refine aops_see 43 (.int .u32 b1) (see_int (x := IntKind.u32.wrap b1) (by kernel_rfl) (wu32 rfl (by omega) (by omega))) ?_
  refine aops_go 1 60 (by kernel_rfl) ?_
  refine aops_see 44 (.int .u32 b1) (see_int (x := (IntKind.u32.wrap (((BitVec.ofInt 32 0 ||| BitVec.ofInt 32 b1).toNat : Nat) : Int))) (by kernel_rfl) ((or_add 0 b1 32 (by omega) (by omega) (by omega) (by omega) (by omega) (by omega) (by omega)).trans (Int.zero_add _))) ?_
  refine aops_go 1 60 (by kernel_rfl) ?_
  obtain ⟨H4_, hH4_⟩ : ∃ x : Heap, x = H3_.put (H1_.n) ⟨[Value.int .i64 x0, .int .u32 b1], 26, false⟩ := ⟨_, rfl⟩
  have nH4_ : H4_.n = H3_.n := by rw [hH4_]; rfl
  refine aops_skip H4_ (by kernel_rfl) (by kernel_rfl) (by kernel_rfl) ((by kernel_rfl : _ = skp (astore T20 22 (.pointer (some ⟨H1_.n, 1, none⟩)) (.int .u32 b1) H3_)).trans (by rw [astore_to gH3_H1__n (by kernel_rfl), ← hH4_]; rfl)) ?_
  refine aops_end (by kernel_rfl) (blk_normal (then_normal ?_))
  refine aw_code f23bcccccacaacc_eq ?_
  refine aw_reg ?_
  refine aops_go 3 60 (by kernel_rfl) ?_
  refine aops_end (by kernel_rfl) (then_normal (hK1_ _ ?_))
  refine aw_loop_k fun K2_ hK2_ => ?_
  refine aw_code f23bcccccacaa_eq ?_
  refine aw_then ?_
  refine aw_code f23bcccccacaaa_eq ?_
  refine aw_then ?_
  refine aw_code f23bcccccacaaaa_eq ?_
  refine aw_reg ?_
  refine aops_go 2 60 (by kernel_rfl) ?_
  refine aops_end (by kernel_rfl) (then_normal ?_)
  refine aw_code f23bcccccacaaac_eq ?_
  refine aw_cond (t := false) (by kernel_rfl) ?_
  refine aw_exit (then_exit (then_exit (blk_hit (then_normal ?_))))
  refine aw_code f23bcccccc_eq ?_
  refine aw_then ?_
  refine aw_code f23bcccccca_eq ?_
  refine aw_reg ?_
  have gH4_H1__n : H4_.get (H1_.n) = some ⟨[Value.int .i64 x0, .int .u32 b1], 26, false⟩ := by rw [hH4_]; exact (Heap.get_put _ _ _ _).trans (if_pos rfl)
  refine aops_val 46 (.agg #[.int .i64 x0, .int .u32 b1]) H4_ (by kernel_rfl) (by kernel_rfl) (by kernel_rfl) ((by kernel_rfl : _ = val (aload T20 26 (.pointer (some ⟨H1_.n, 0, none⟩)) H4_) H4_).trans (val_of ((aload_at gH4_H1__n).trans (by kernel_rfl)))) ?_
  refine aops_go 1 60 (by kernel_rfl) ?_
  have gH4_H_n : H4_.get (H.n) = some ⟨[Value.int .i64 0, .int .u32 0], 26, false⟩ := by rw [hH4_, Heap.get_put, if_neg (by omega)]; rw [hH3_, Heap.get_put, if_neg (by omega)]; rw [hH2_, Heap.get_push, if_neg (by omega)]; rw [hH1_]; exact (Heap.get_push _ _ _).trans (if_pos rfl)
  obtain ⟨H5_, hH5_⟩ : ∃ x : Heap, x = H4_.put (H.n) ⟨[Value.int .i64 x0, .int .u32 b1], 26, false⟩ := ⟨_, rfl⟩
  have nH5_ : H5_.n = H4_.n := by rw [hH5_]; rfl
  refine aops_skip H5_ (by kernel_rfl) (by kernel_rfl) (by kernel_rfl) ((by kernel_rfl : _ = skp (astore T20 26 (.pointer (some ⟨H.n, 0, none⟩)) (.agg #[.int .i64 x0, .int .u32 b1]) H4_)).trans (by rw [astore_to gH4_H_n (by kernel_rfl), ← hH5_]; rfl)) ?_
  refine aops_go 2 60 (by kernel_rfl) ?_
  refine aops_end (by kernel_rfl) (then_normal ?_)
  have gH5_H_n : H5_.get (H.n) = some ⟨[Value.int .i64 x0, .int .u32 b1], 26, false⟩ := by rw [hH5_]; exact (Heap.get_put _ _ _ _).trans (if_pos rfl)
  refine aw_ret (bodyQ_ret_to (.tuple #[.agg #[.int .i64 x0, .int .u32 b1], .int .i64 2, .int .i64 0]) H5_ (ares_cell2 2 26 3 4 (.pointer (some ⟨H.n, 0, none⟩)) H5_ (by kernel_rfl) (by kernel_rfl) (by kernel_rfl) (by kernel_rfl) (by kernel_rfl) ((aload_at gH5_H_n).trans (by kernel_rfl))) (by kernel_rfl) ?_)
  exact ⟨rfl, ⟨by omega, fun b hb => by rw [hH5_, Heap.get_put, if_neg (by omega), hH4_, Heap.get_put, if_neg (by omega), hH3_, Heap.get_put, if_neg (by omega), hH2_, Heap.get_push, if_neg (by omega), hH1_, Heap.get_push, if_neg (by omega)]⟩⟩
theorem dec_5 {H : Heap} {A off n cap : Nat} {cells : List Value} {e : TypeId} {ro : Bool} {x0 : Int} (gA : H.get A = some ⟨cells, e, ro⟩) (hA : A < H.n) (hn : 5 ≤ n) (c0 : cells[off + 0 * 1]? = some (.int .u8 x0)) (l0 : 0 ≤ x0) (m0 : x0 < 256) {b1 : Int} (c1 : cells[off + 1 * 1]? = some (.int .u8 b1)) (l1 : 0 ≤ b1) (m1 : b1 < 256) {b2 : Int} (c2 : cells[off + 2 * 1]? = some (.int .u8 b2)) (l2 : 0 ≤ b2) (m2 : b2 < 256) {b3 : Int} (c3 : cells[off + 3 * 1]? = some (.int .u8 b3)) (l3 : 0 ≤ b3) (m3 : b3 < 256) {b4 : Int} (c4 : cells[off + 4 * 1]? = some (.int .u8 b4)) (l4 : 0 ≤ b4) (m4 : b4 < 256) (hz : sizeV x0 = 5) : ACall Tryd.prog T20 23 #[.slice (some ⟨A, off, none⟩) n cap] H fun r H' => r = decR (x0, num4 b1 b2 b3 b4, 5, 0) ∧ Up H.n H H' := by
  refine acall_of' 48 (initTm 0 #[.slice (some ⟨A, off, none⟩) n cap]) rfl f23_fn f23_body rfl rfl ?_
  refine aw_code f23b_eq ?_
  refine aw_then ?_
  refine aw_code f23ba_eq ?_
  refine aw_reg ?_
  obtain ⟨H1_, hH1_⟩ : ∃ x : Heap, x = H.push ⟨[Value.int .i64 0, .int .u32 0], 26, false⟩ := ⟨_, rfl⟩
  have nH1_ : H1_.n = H.n + 1 := by rw [hH1_]; rfl
  refine aops_val 2 (.pointer (some ⟨H.n, 0, none⟩)) H1_ (by kernel_rfl) (by kernel_rfl) (by kernel_rfl) ((by kernel_rfl : _ = some (Res.val (.pointer (some ⟨H.n, 0, none⟩)), H.push ⟨[Value.int .i64 0, .int .u32 0], 26, false⟩)).trans (by rw [← hH1_])) ?_
  refine aops_go 2 60 (by kernel_rfl) ?_
  refine aops_end (by kernel_rfl) (then_normal ?_)
  refine aw_code f23bc_eq ?_
  refine aw_then ?_
  refine aw_code f23bca_eq ?_
  refine aw_then ?_
  refine aw_code f23bcaa_eq ?_
  refine aw_reg ?_
  refine aops_go 3 60 (by kernel_rfl) ?_
  refine aops_end (by kernel_rfl) (then_normal ?_)
  refine aw_code f23bcac_eq ?_
  refine aw_cond (t := false) (see_bool (by kernel_rfl) ((by simp; omega) : ((((n : Nat) : Int) == 0)) = false)) ?_
  refine aw_skip (then_normal ?_)
  refine aw_code f23bcc_eq ?_
  refine aw_then ?_
  refine aw_code f23bcca_eq ?_
  refine aw_reg ?_
  refine aops_go 1 60 (by kernel_rfl) ?_
  refine aops_val 13 (.pointer (some ⟨A, off + 0 * 1, none⟩)) H1_ (by kernel_rfl) (by kernel_rfl) (by kernel_rfl) ((by kernel_rfl : _ = val (bif (0 : Nat).blt n then some (.pointer (some ⟨A, off + 0 * 1, none⟩)) else none) H1_).trans (by rw [show (0 : Nat).blt n = true from (by rw [blt_dec]; simp only [decide_eq_true_eq]; omega)]; rfl)) ?_
  have gH1_A : H1_.get (A) = some ⟨cells, e, ro⟩ := by rw [hH1_, Heap.get_push, if_neg (by omega)]; exact gA
  refine aops_val 14 (.int .u8 x0) H1_ (by kernel_rfl) (by kernel_rfl) (by kernel_rfl) ((by kernel_rfl : _ = val (aload T20 5 (.pointer (some ⟨A, off + 0 * 1, none⟩)) H1_) H1_).trans (val_of ((aload_at gH1_A).trans (aloadC_cellB (n := 1) (by kernel_rfl) (by kernel_rfl) c0)))) ?_
  refine aops_go 1 60 (by kernel_rfl) ?_
  refine aops_see 15 (.int .i64 x0) (see_int (x := IntKind.i64.wrap x0) (by kernel_rfl) (w64 rfl (by omega) (by omega))) ?_
  refine aops_go 1 60 (by kernel_rfl) ?_
  obtain ⟨H2_, hH2_⟩ : ∃ x : Heap, x = H1_.push ⟨[Value.int .i64 0, .int .u32 0], 26, false⟩ := ⟨_, rfl⟩
  have nH2_ : H2_.n = H1_.n + 1 := by rw [hH2_]; rfl
  refine aops_val 5 (.pointer (some ⟨H1_.n, 0, none⟩)) H2_ (by kernel_rfl) (by kernel_rfl) (by kernel_rfl) ((by kernel_rfl : _ = some (Res.val (.pointer (some ⟨H1_.n, 0, none⟩)), H1_.push ⟨[Value.int .i64 0, .int .u32 0], 26, false⟩)).trans (by rw [← hH2_])) ?_
  have gH2_H1__n : H2_.get (H1_.n) = some ⟨[Value.int .i64 0, .int .u32 0], 26, false⟩ := by rw [hH2_]; exact (Heap.get_push _ _ _).trans (if_pos rfl)
  obtain ⟨H3_, hH3_⟩ : ∃ x : Heap, x = H2_.put (H1_.n) ⟨[Value.int .i64 x0, .int .u32 0], 26, false⟩ := ⟨_, rfl⟩
  have nH3_ : H3_.n = H2_.n := by rw [hH3_]; rfl
  refine aops_skip H3_ (by kernel_rfl) (by kernel_rfl) (by kernel_rfl) ((by kernel_rfl : _ = skp (astore T20 26 (.pointer (some ⟨H1_.n, 0, none⟩)) (.agg #[.int .i64 x0, .int .u32 0]) H2_)).trans (by rw [astore_to gH2_H1__n (by kernel_rfl), ← hH3_]; rfl)) ?_
  refine aops_end (by kernel_rfl) (then_normal ?_)
  refine aw_code f23bccc_eq ?_
  refine aw_then ?_
  refine aw_code f23bccca_eq ?_
  refine aw_reg ?_
  refine aops_go 1 60 (by kernel_rfl) ?_
  have gH3_H1__n : H3_.get (H1_.n) = some ⟨[Value.int .i64 x0, .int .u32 0], 26, false⟩ := by rw [hH3_]; exact (Heap.get_put _ _ _ _).trans (if_pos rfl)
  refine aops_val 18 (.int .i64 x0) H3_ (by kernel_rfl) (by kernel_rfl) (by kernel_rfl) ((by kernel_rfl : _ = val (aload T20 3 (.pointer (some ⟨H1_.n, 0, none⟩)) H3_) H3_).trans (val_of ((aload_at gH3_H1__n).trans (by kernel_rfl)))) ?_
  refine aops_ask 19 (.int .i64 5) 15 #[.int .i64 x0] (by kernel_rfl) (by kernel_rfl) (by kernel_rfl) (by kernel_rfl) (show some (Value.int .i64 (sizeV x0)) = _ by rw [hz]) ?_
  refine aops_go 1 60 (by kernel_rfl) ?_
  refine aops_end (by kernel_rfl) (then_normal ?_)
  refine aw_code f23bcccc_eq ?_
  refine aw_then ?_
  refine aw_code f23bcccca_eq ?_
  refine aw_block ?_
  refine aw_code f23bccccaa_eq ?_
  refine aw_then ?_
  refine aw_code f23bccccaaa_eq ?_
  refine aw_reg ?_
  refine aops_go 3 60 (by kernel_rfl) ?_
  refine aops_end (by kernel_rfl) (then_normal ?_)
  refine aw_code f23bccccaac_eq ?_
  refine aw_cond (t := false) (by kernel_rfl) ?_
  refine aw_code f23bccccaacc_eq ?_
  refine aw_then ?_
  refine aw_code f23bccccaacca_eq ?_
  refine aw_reg ?_
  refine aops_go 5 60 (by kernel_rfl) ?_
  refine aops_end (by kernel_rfl) (then_normal ?_)
  refine aw_code f23bccccaaccc_eq ?_
  refine aw_cond (t := false) (see_bool (by kernel_rfl) ((by simp; omega) : ((decide ((5 : Int) > ((n : Nat) : Int)))) = false)) ?_
  refine aw_skip (blk_normal (then_normal ?_))
  refine aw_code f23bccccc_eq ?_
  refine aw_then ?_
  refine aw_code f23bccccca_eq ?_
  refine aw_then ?_
  refine aw_code f23bcccccaa_eq ?_
  refine aw_reg ?_
  refine aops_go 3 60 (by kernel_rfl) ?_
  refine aops_end (by kernel_rfl) (then_normal ?_)
  refine aw_code f23bcccccac_eq ?_
  refine aw_block ?_
  refine aw_code f23bcccccaca_eq ?_
  refine aw_loop_k fun K1_ hK1_ => ?_
  refine aw_code f23bcccccacaa_eq ?_
  refine aw_then ?_
  refine aw_code f23bcccccacaaa_eq ?_
  refine aw_then ?_
  refine aw_code f23bcccccacaaaa_eq ?_
  refine aw_reg ?_
  refine aops_go 2 60 (by kernel_rfl) ?_
  refine aops_end (by kernel_rfl) (then_normal ?_)
  refine aw_code f23bcccccacaaac_eq ?_
  refine aw_cond (t := true) (by kernel_rfl) ?_
  refine aw_skip (then_normal ?_)
  refine aw_code f23bcccccacaac_eq ?_
  refine aw_then ?_
  refine aw_code f23bcccccacaaca_eq ?_
  refine aw_block ?_
  refine aw_code f23bcccccacaacaa_eq ?_
  refine aw_draw0w (by kernel_rfl) ?_
  refine aops_go 1 60 (by kernel_rfl) ?_
  refine aops_val 37 (.int .u32 0) H3_ (by kernel_rfl) (by kernel_rfl) (by kernel_rfl) ((by kernel_rfl : _ = val (aload T20 22 (.pointer (some ⟨H1_.n, 1, none⟩)) H3_) H3_).trans (val_of ((aload_at gH3_H1__n).trans (by kernel_rfl)))) ?_
  refine aops_go 1 60 (by kernel_rfl) ?_
  refine aops_see 38 (.int .u32 0) (by kernel_rfl) ?_
  refine aops_go 2 60 (by kernel_rfl) ?_
  refine aops_val 41 (.pointer (some ⟨A, off + 4 * 1, none⟩)) H3_ (by kernel_rfl) (by kernel_rfl) (by kernel_rfl) ((by kernel_rfl : _ = val (bif (4 : Nat).blt n then some (.pointer (some ⟨A, off + 4 * 1, none⟩)) else none) H3_).trans (by rw [show (4 : Nat).blt n = true from (by rw [blt_dec]; simp only [decide_eq_true_eq]; omega)]; rfl)) ?_
  have gH3_A : H3_.get (A) = some ⟨cells, e, ro⟩ := by rw [hH3_, Heap.get_put, if_neg (by omega)]; rw [hH2_, Heap.get_push, if_neg (by omega)]; exact gH1_A
  refine aops_val 42 (.int .u8 b4) H3_ (by kernel_rfl) (by kernel_rfl) (by kernel_rfl) ((by kernel_rfl : _ = val (aload T20 5 (.pointer (some ⟨A, off + 4 * 1, none⟩)) H3_) H3_).trans (val_of ((aload_at gH3_A).trans (aloadC_cellB (n := 1) (by kernel_rfl) (by kernel_rfl) c4)))) ?_
  refine aops_go 1 60 (by kernel_rfl) ?_
  refine aops_see 43 (.int .u32 b4) (see_int (x := IntKind.u32.wrap b4) (by kernel_rfl) (wu32 rfl (by omega) (by omega))) ?_
  refine aops_go 1 60 (by kernel_rfl) ?_
  refine aops_see 44 (.int .u32 b4) (see_int (x := (IntKind.u32.wrap (((BitVec.ofInt 32 0 ||| BitVec.ofInt 32 b4).toNat : Nat) : Int))) (by kernel_rfl) ((or_add 0 b4 32 (by omega) (by omega) (by omega) (by omega) (by omega) (by omega) (by omega)).trans (Int.zero_add _))) ?_
  refine aops_go 1 60 (by kernel_rfl) ?_
  obtain ⟨H4_, hH4_⟩ : ∃ x : Heap, x = H3_.put (H1_.n) ⟨[Value.int .i64 x0, .int .u32 b4], 26, false⟩ := ⟨_, rfl⟩
  have nH4_ : H4_.n = H3_.n := by rw [hH4_]; rfl
  refine aops_skip H4_ (by kernel_rfl) (by kernel_rfl) (by kernel_rfl) ((by kernel_rfl : _ = skp (astore T20 22 (.pointer (some ⟨H1_.n, 1, none⟩)) (.int .u32 b4) H3_)).trans (by rw [astore_to gH3_H1__n (by kernel_rfl), ← hH4_]; rfl)) ?_
  refine aops_end (by kernel_rfl) (blk_normal (then_normal ?_))
  refine aw_code f23bcccccacaacc_eq ?_
  refine aw_reg ?_
  refine aops_go 3 60 (by kernel_rfl) ?_
  refine aops_end (by kernel_rfl) (then_normal (hK1_ _ ?_))
  refine aw_loop_k fun K2_ hK2_ => ?_
  refine aw_code f23bcccccacaa_eq ?_
  refine aw_then ?_
  refine aw_code f23bcccccacaaa_eq ?_
  refine aw_then ?_
  refine aw_code f23bcccccacaaaa_eq ?_
  refine aw_reg ?_
  refine aops_go 2 60 (by kernel_rfl) ?_
  refine aops_end (by kernel_rfl) (then_normal ?_)
  refine aw_code f23bcccccacaaac_eq ?_
  refine aw_cond (t := true) (by kernel_rfl) ?_
  refine aw_skip (then_normal ?_)
  refine aw_code f23bcccccacaac_eq ?_
  refine aw_then ?_
  refine aw_code f23bcccccacaaca_eq ?_
  refine aw_block ?_
  refine aw_code f23bcccccacaacaa_eq ?_
  refine aw_draw0w (by kernel_rfl) ?_
  refine aops_go 1 60 (by kernel_rfl) ?_
  have gH4_H1__n : H4_.get (H1_.n) = some ⟨[Value.int .i64 x0, .int .u32 b4], 26, false⟩ := by rw [hH4_]; exact (Heap.get_put _ _ _ _).trans (if_pos rfl)
  refine aops_val 37 (.int .u32 b4) H4_ (by kernel_rfl) (by kernel_rfl) (by kernel_rfl) ((by kernel_rfl : _ = val (aload T20 22 (.pointer (some ⟨H1_.n, 1, none⟩)) H4_) H4_).trans (val_of ((aload_at gH4_H1__n).trans (by kernel_rfl)))) ?_
  refine aops_go 1 60 (by kernel_rfl) ?_
  refine aops_see 38 (.int .u32 (b4 * 256)) (see_int (x := (IntKind.u32.wrap (b4 * 256))) (by kernel_rfl) (wu32 rfl (by omega) (by omega))) ?_
  refine aops_go 2 60 (by kernel_rfl) ?_
  refine aops_val 41 (.pointer (some ⟨A, off + 3 * 1, none⟩)) H4_ (by kernel_rfl) (by kernel_rfl) (by kernel_rfl) ((by kernel_rfl : _ = val (bif (3 : Nat).blt n then some (.pointer (some ⟨A, off + 3 * 1, none⟩)) else none) H4_).trans (by rw [show (3 : Nat).blt n = true from (by rw [blt_dec]; simp only [decide_eq_true_eq]; omega)]; rfl)) ?_
  have gH4_A : H4_.get (A) = some ⟨cells, e, ro⟩ := by rw [hH4_, Heap.get_put, if_neg (by omega)]; exact gH3_A
  refine aops_val 42 (.int .u8 b3) H4_ (by kernel_rfl) (by kernel_rfl) (by kernel_rfl) ((by kernel_rfl : _ = val (aload T20 5 (.pointer (some ⟨A, off + 3 * 1, none⟩)) H4_) H4_).trans (val_of ((aload_at gH4_A).trans (aloadC_cellB (n := 1) (by kernel_rfl) (by kernel_rfl) c3)))) ?_
  refine aops_go 1 60 (by kernel_rfl) ?_
  refine aops_see 43 (.int .u32 b3) (see_int (x := IntKind.u32.wrap b3) (by kernel_rfl) (wu32 rfl (by omega) (by omega))) ?_
  refine aops_go 1 60 (by kernel_rfl) ?_
  refine aops_see 44 (.int .u32 ((b4 * 256) + b3)) (see_int (x := (IntKind.u32.wrap (((BitVec.ofInt 32 (b4 * 256) ||| BitVec.ofInt 32 b3).toNat : Nat) : Int))) (by kernel_rfl) (or_add (b4 * 256) b3 8 (by omega) (by omega) (by omega) (by omega) (by omega) (by omega) (by omega))) ?_
  refine aops_go 1 60 (by kernel_rfl) ?_
  obtain ⟨H5_, hH5_⟩ : ∃ x : Heap, x = H4_.put (H1_.n) ⟨[Value.int .i64 x0, .int .u32 ((b4 * 256) + b3)], 26, false⟩ := ⟨_, rfl⟩
  have nH5_ : H5_.n = H4_.n := by rw [hH5_]; rfl
  refine aops_skip H5_ (by kernel_rfl) (by kernel_rfl) (by kernel_rfl) ((by kernel_rfl : _ = skp (astore T20 22 (.pointer (some ⟨H1_.n, 1, none⟩)) (.int .u32 ((b4 * 256) + b3)) H4_)).trans (by rw [astore_to gH4_H1__n (by kernel_rfl), ← hH5_]; rfl)) ?_
  refine aops_end (by kernel_rfl) (blk_normal (then_normal ?_))
  refine aw_code f23bcccccacaacc_eq ?_
  refine aw_reg ?_
  refine aops_go 3 60 (by kernel_rfl) ?_
  refine aops_end (by kernel_rfl) (then_normal (hK2_ _ ?_))
  refine aw_loop_k fun K3_ hK3_ => ?_
  refine aw_code f23bcccccacaa_eq ?_
  refine aw_then ?_
  refine aw_code f23bcccccacaaa_eq ?_
  refine aw_then ?_
  refine aw_code f23bcccccacaaaa_eq ?_
  refine aw_reg ?_
  refine aops_go 2 60 (by kernel_rfl) ?_
  refine aops_end (by kernel_rfl) (then_normal ?_)
  refine aw_code f23bcccccacaaac_eq ?_
  refine aw_cond (t := true) (by kernel_rfl) ?_
  refine aw_skip (then_normal ?_)
  refine aw_code f23bcccccacaac_eq ?_
  refine aw_then ?_
  refine aw_code f23bcccccacaaca_eq ?_
  refine aw_block ?_
  refine aw_code f23bcccccacaacaa_eq ?_
  refine aw_draw0w (by kernel_rfl) ?_
  refine aops_go 1 60 (by kernel_rfl) ?_
  have gH5_H1__n : H5_.get (H1_.n) = some ⟨[Value.int .i64 x0, .int .u32 ((b4 * 256) + b3)], 26, false⟩ := by rw [hH5_]; exact (Heap.get_put _ _ _ _).trans (if_pos rfl)
  refine aops_val 37 (.int .u32 ((b4 * 256) + b3)) H5_ (by kernel_rfl) (by kernel_rfl) (by kernel_rfl) ((by kernel_rfl : _ = val (aload T20 22 (.pointer (some ⟨H1_.n, 1, none⟩)) H5_) H5_).trans (val_of ((aload_at gH5_H1__n).trans (by kernel_rfl)))) ?_
  refine aops_go 1 60 (by kernel_rfl) ?_
  refine aops_see 38 (.int .u32 (((b4 * 256) + b3) * 256)) (see_int (x := (IntKind.u32.wrap (((b4 * 256) + b3) * 256))) (by kernel_rfl) (wu32 rfl (by omega) (by omega))) ?_
  refine aops_go 2 60 (by kernel_rfl) ?_
  refine aops_val 41 (.pointer (some ⟨A, off + 2 * 1, none⟩)) H5_ (by kernel_rfl) (by kernel_rfl) (by kernel_rfl) ((by kernel_rfl : _ = val (bif (2 : Nat).blt n then some (.pointer (some ⟨A, off + 2 * 1, none⟩)) else none) H5_).trans (by rw [show (2 : Nat).blt n = true from (by rw [blt_dec]; simp only [decide_eq_true_eq]; omega)]; rfl)) ?_
  have gH5_A : H5_.get (A) = some ⟨cells, e, ro⟩ := by rw [hH5_, Heap.get_put, if_neg (by omega)]; exact gH4_A
  refine aops_val 42 (.int .u8 b2) H5_ (by kernel_rfl) (by kernel_rfl) (by kernel_rfl) ((by kernel_rfl : _ = val (aload T20 5 (.pointer (some ⟨A, off + 2 * 1, none⟩)) H5_) H5_).trans (val_of ((aload_at gH5_A).trans (aloadC_cellB (n := 1) (by kernel_rfl) (by kernel_rfl) c2)))) ?_
  refine aops_go 1 60 (by kernel_rfl) ?_
  refine aops_see 43 (.int .u32 b2) (see_int (x := IntKind.u32.wrap b2) (by kernel_rfl) (wu32 rfl (by omega) (by omega))) ?_
  refine aops_go 1 60 (by kernel_rfl) ?_
  refine aops_see 44 (.int .u32 ((((b4 * 256) + b3) * 256) + b2)) (see_int (x := (IntKind.u32.wrap (((BitVec.ofInt 32 (((b4 * 256) + b3) * 256) ||| BitVec.ofInt 32 b2).toNat : Nat) : Int))) (by kernel_rfl) (or_add (((b4 * 256) + b3) * 256) b2 8 (by omega) (by omega) (by omega) (by omega) (by omega) (by omega) (by omega))) ?_
  refine aops_go 1 60 (by kernel_rfl) ?_
  obtain ⟨H6_, hH6_⟩ : ∃ x : Heap, x = H5_.put (H1_.n) ⟨[Value.int .i64 x0, .int .u32 ((((b4 * 256) + b3) * 256) + b2)], 26, false⟩ := ⟨_, rfl⟩
  have nH6_ : H6_.n = H5_.n := by rw [hH6_]; rfl
  refine aops_skip H6_ (by kernel_rfl) (by kernel_rfl) (by kernel_rfl) ((by kernel_rfl : _ = skp (astore T20 22 (.pointer (some ⟨H1_.n, 1, none⟩)) (.int .u32 ((((b4 * 256) + b3) * 256) + b2)) H5_)).trans (by rw [astore_to gH5_H1__n (by kernel_rfl), ← hH6_]; rfl)) ?_
  refine aops_end (by kernel_rfl) (blk_normal (then_normal ?_))
  refine aw_code f23bcccccacaacc_eq ?_
  refine aw_reg ?_
  refine aops_go 3 60 (by kernel_rfl) ?_
  refine aops_end (by kernel_rfl) (then_normal (hK3_ _ ?_))
  refine aw_loop_k fun K4_ hK4_ => ?_
  refine aw_code f23bcccccacaa_eq ?_
  refine aw_then ?_
  refine aw_code f23bcccccacaaa_eq ?_
  refine aw_then ?_
  refine aw_code f23bcccccacaaaa_eq ?_
  refine aw_reg ?_
  refine aops_go 2 60 (by kernel_rfl) ?_
  refine aops_end (by kernel_rfl) (then_normal ?_)
  refine aw_code f23bcccccacaaac_eq ?_
  refine aw_cond (t := true) (by kernel_rfl) ?_
  refine aw_skip (then_normal ?_)
  refine aw_code f23bcccccacaac_eq ?_
  refine aw_then ?_
  refine aw_code f23bcccccacaaca_eq ?_
  refine aw_block ?_
  refine aw_code f23bcccccacaacaa_eq ?_
  refine aw_draw0w (by kernel_rfl) ?_
  refine aops_go 1 60 (by kernel_rfl) ?_
  have gH6_H1__n : H6_.get (H1_.n) = some ⟨[Value.int .i64 x0, .int .u32 ((((b4 * 256) + b3) * 256) + b2)], 26, false⟩ := by rw [hH6_]; exact (Heap.get_put _ _ _ _).trans (if_pos rfl)
  refine aops_val 37 (.int .u32 ((((b4 * 256) + b3) * 256) + b2)) H6_ (by kernel_rfl) (by kernel_rfl) (by kernel_rfl) ((by kernel_rfl : _ = val (aload T20 22 (.pointer (some ⟨H1_.n, 1, none⟩)) H6_) H6_).trans (val_of ((aload_at gH6_H1__n).trans (by kernel_rfl)))) ?_
  refine aops_go 1 60 (by kernel_rfl) ?_
  refine aops_see 38 (.int .u32 (((((b4 * 256) + b3) * 256) + b2) * 256)) (see_int (x := (IntKind.u32.wrap (((((b4 * 256) + b3) * 256) + b2) * 256))) (by kernel_rfl) (wu32 rfl (by omega) (by omega))) ?_
  refine aops_go 2 60 (by kernel_rfl) ?_
  refine aops_val 41 (.pointer (some ⟨A, off + 1 * 1, none⟩)) H6_ (by kernel_rfl) (by kernel_rfl) (by kernel_rfl) ((by kernel_rfl : _ = val (bif (1 : Nat).blt n then some (.pointer (some ⟨A, off + 1 * 1, none⟩)) else none) H6_).trans (by rw [show (1 : Nat).blt n = true from (by rw [blt_dec]; simp only [decide_eq_true_eq]; omega)]; rfl)) ?_
  have gH6_A : H6_.get (A) = some ⟨cells, e, ro⟩ := by rw [hH6_, Heap.get_put, if_neg (by omega)]; exact gH5_A
  refine aops_val 42 (.int .u8 b1) H6_ (by kernel_rfl) (by kernel_rfl) (by kernel_rfl) ((by kernel_rfl : _ = val (aload T20 5 (.pointer (some ⟨A, off + 1 * 1, none⟩)) H6_) H6_).trans (val_of ((aload_at gH6_A).trans (aloadC_cellB (n := 1) (by kernel_rfl) (by kernel_rfl) c1)))) ?_
  refine aops_go 1 60 (by kernel_rfl) ?_
  refine aops_see 43 (.int .u32 b1) (see_int (x := IntKind.u32.wrap b1) (by kernel_rfl) (wu32 rfl (by omega) (by omega))) ?_
  refine aops_go 1 60 (by kernel_rfl) ?_
  refine aops_see 44 (.int .u32 ((((((b4 * 256) + b3) * 256) + b2) * 256) + b1)) (see_int (x := (IntKind.u32.wrap (((BitVec.ofInt 32 (((((b4 * 256) + b3) * 256) + b2) * 256) ||| BitVec.ofInt 32 b1).toNat : Nat) : Int))) (by kernel_rfl) (or_add (((((b4 * 256) + b3) * 256) + b2) * 256) b1 8 (by omega) (by omega) (by omega) (by omega) (by omega) (by omega) (by omega))) ?_
  refine aops_go 1 60 (by kernel_rfl) ?_
  obtain ⟨H7_, hH7_⟩ : ∃ x : Heap, x = H6_.put (H1_.n) ⟨[Value.int .i64 x0, .int .u32 ((((((b4 * 256) + b3) * 256) + b2) * 256) + b1)], 26, false⟩ := ⟨_, rfl⟩
  have nH7_ : H7_.n = H6_.n := by rw [hH7_]; rfl
  refine aops_skip H7_ (by kernel_rfl) (by kernel_rfl) (by kernel_rfl) ((by kernel_rfl : _ = skp (astore T20 22 (.pointer (some ⟨H1_.n, 1, none⟩)) (.int .u32 ((((((b4 * 256) + b3) * 256) + b2) * 256) + b1)) H6_)).trans (by rw [astore_to gH6_H1__n (by kernel_rfl), ← hH7_]; rfl)) ?_
  refine aops_end (by kernel_rfl) (blk_normal (then_normal ?_))
  refine aw_code f23bcccccacaacc_eq ?_
  refine aw_reg ?_
  refine aops_go 3 60 (by kernel_rfl) ?_
  refine aops_end (by kernel_rfl) (then_normal (hK4_ _ ?_))
  refine aw_loop_k fun K5_ hK5_ => ?_
  refine aw_code f23bcccccacaa_eq ?_
  refine aw_then ?_
  refine aw_code f23bcccccacaaa_eq ?_
  refine aw_then ?_
  refine aw_code f23bcccccacaaaa_eq ?_
  refine aw_reg ?_
  refine aops_go 2 60 (by kernel_rfl) ?_
  refine aops_end (by kernel_rfl) (then_normal ?_)
  refine aw_code f23bcccccacaaac_eq ?_
  refine aw_cond (t := false) (by kernel_rfl) ?_
  refine aw_exit (then_exit (then_exit (blk_hit (then_normal ?_))))
  refine aw_code f23bcccccc_eq ?_
  refine aw_then ?_
  refine aw_code f23bcccccca_eq ?_
  refine aw_reg ?_
  have gH7_H1__n : H7_.get (H1_.n) = some ⟨[Value.int .i64 x0, .int .u32 ((((((b4 * 256) + b3) * 256) + b2) * 256) + b1)], 26, false⟩ := by rw [hH7_]; exact (Heap.get_put _ _ _ _).trans (if_pos rfl)
  refine aops_val 46 (.agg #[.int .i64 x0, .int .u32 ((((((b4 * 256) + b3) * 256) + b2) * 256) + b1)]) H7_ (by kernel_rfl) (by kernel_rfl) (by kernel_rfl) ((by kernel_rfl : _ = val (aload T20 26 (.pointer (some ⟨H1_.n, 0, none⟩)) H7_) H7_).trans (val_of ((aload_at gH7_H1__n).trans (by kernel_rfl)))) ?_
  refine aops_go 1 60 (by kernel_rfl) ?_
  have gH7_H_n : H7_.get (H.n) = some ⟨[Value.int .i64 0, .int .u32 0], 26, false⟩ := by rw [hH7_, Heap.get_put, if_neg (by omega)]; rw [hH6_, Heap.get_put, if_neg (by omega)]; rw [hH5_, Heap.get_put, if_neg (by omega)]; rw [hH4_, Heap.get_put, if_neg (by omega)]; rw [hH3_, Heap.get_put, if_neg (by omega)]; rw [hH2_, Heap.get_push, if_neg (by omega)]; rw [hH1_]; exact (Heap.get_push _ _ _).trans (if_pos rfl)
  obtain ⟨H8_, hH8_⟩ : ∃ x : Heap, x = H7_.put (H.n) ⟨[Value.int .i64 x0, .int .u32 ((((((b4 * 256) + b3) * 256) + b2) * 256) + b1)], 26, false⟩ := ⟨_, rfl⟩
  have nH8_ : H8_.n = H7_.n := by rw [hH8_]; rfl
  refine aops_skip H8_ (by kernel_rfl) (by kernel_rfl) (by kernel_rfl) ((by kernel_rfl : _ = skp (astore T20 26 (.pointer (some ⟨H.n, 0, none⟩)) (.agg #[.int .i64 x0, .int .u32 ((((((b4 * 256) + b3) * 256) + b2) * 256) + b1)]) H7_)).trans (by rw [astore_to gH7_H_n (by kernel_rfl), ← hH8_]; rfl)) ?_
  refine aops_go 2 60 (by kernel_rfl) ?_
  refine aops_end (by kernel_rfl) (then_normal ?_)
  have gH8_H_n : H8_.get (H.n) = some ⟨[Value.int .i64 x0, .int .u32 ((((((b4 * 256) + b3) * 256) + b2) * 256) + b1)], 26, false⟩ := by rw [hH8_]; exact (Heap.get_put _ _ _ _).trans (if_pos rfl)
  refine aw_ret (bodyQ_ret_to (.tuple #[.agg #[.int .i64 x0, .int .u32 ((((((b4 * 256) + b3) * 256) + b2) * 256) + b1)], .int .i64 5, .int .i64 0]) H8_ (ares_cell2 2 26 3 4 (.pointer (some ⟨H.n, 0, none⟩)) H8_ (by kernel_rfl) (by kernel_rfl) (by kernel_rfl) (by kernel_rfl) (by kernel_rfl) ((aload_at gH8_H_n).trans (by kernel_rfl))) (by kernel_rfl) ?_)
  exact ⟨by rw [show ((((((b4 * 256) + b3) * 256) + b2) * 256) + b1) = num4 b1 b2 b3 b4 from by unfold num4; omega]; rfl, ⟨by omega, fun b hb => by rw [hH8_, Heap.get_put, if_neg (by omega), hH7_, Heap.get_put, if_neg (by omega), hH6_, Heap.get_put, if_neg (by omega), hH5_, Heap.get_put, if_neg (by omega), hH4_, Heap.get_put, if_neg (by omega), hH3_, Heap.get_put, if_neg (by omega), hH2_, Heap.get_push, if_neg (by omega), hH1_, Heap.get_push, if_neg (by omega)]⟩⟩
theorem dec_2s {H : Heap} {A off n cap : Nat} {cells : List Value} {e : TypeId} {ro : Bool} {x0 : Int} (gA : H.get A = some ⟨cells, e, ro⟩) (hA : A < H.n) (hn : 1 ≤ n) (hn2 : n < 2) (c0 : cells[off + 0 * 1]? = some (.int .u8 x0)) (l0 : 0 ≤ x0) (m0 : x0 < 256) (hz : sizeV x0 = 2) : ACall Tryd.prog T20 23 #[.slice (some ⟨A, off, none⟩) n cap] H fun r H' => r = decR (0, 0, 0, 10) ∧ Up H.n H H' := by
  refine acall_of' 48 (initTm 0 #[.slice (some ⟨A, off, none⟩) n cap]) rfl f23_fn f23_body rfl rfl ?_
  refine aw_code f23b_eq ?_
  refine aw_then ?_
  refine aw_code f23ba_eq ?_
  refine aw_reg ?_
  obtain ⟨H1_, hH1_⟩ : ∃ x : Heap, x = H.push ⟨[Value.int .i64 0, .int .u32 0], 26, false⟩ := ⟨_, rfl⟩
  have nH1_ : H1_.n = H.n + 1 := by rw [hH1_]; rfl
  refine aops_val 2 (.pointer (some ⟨H.n, 0, none⟩)) H1_ (by kernel_rfl) (by kernel_rfl) (by kernel_rfl) ((by kernel_rfl : _ = some (Res.val (.pointer (some ⟨H.n, 0, none⟩)), H.push ⟨[Value.int .i64 0, .int .u32 0], 26, false⟩)).trans (by rw [← hH1_])) ?_
  refine aops_go 2 60 (by kernel_rfl) ?_
  refine aops_end (by kernel_rfl) (then_normal ?_)
  refine aw_code f23bc_eq ?_
  refine aw_then ?_
  refine aw_code f23bca_eq ?_
  refine aw_then ?_
  refine aw_code f23bcaa_eq ?_
  refine aw_reg ?_
  refine aops_go 3 60 (by kernel_rfl) ?_
  refine aops_end (by kernel_rfl) (then_normal ?_)
  refine aw_code f23bcac_eq ?_
  refine aw_cond (t := false) (see_bool (by kernel_rfl) ((by simp; omega) : ((((n : Nat) : Int) == 0)) = false)) ?_
  refine aw_skip (then_normal ?_)
  refine aw_code f23bcc_eq ?_
  refine aw_then ?_
  refine aw_code f23bcca_eq ?_
  refine aw_reg ?_
  refine aops_go 1 60 (by kernel_rfl) ?_
  refine aops_val 13 (.pointer (some ⟨A, off + 0 * 1, none⟩)) H1_ (by kernel_rfl) (by kernel_rfl) (by kernel_rfl) ((by kernel_rfl : _ = val (bif (0 : Nat).blt n then some (.pointer (some ⟨A, off + 0 * 1, none⟩)) else none) H1_).trans (by rw [show (0 : Nat).blt n = true from (by rw [blt_dec]; simp only [decide_eq_true_eq]; omega)]; rfl)) ?_
  have gH1_A : H1_.get (A) = some ⟨cells, e, ro⟩ := by rw [hH1_, Heap.get_push, if_neg (by omega)]; exact gA
  refine aops_val 14 (.int .u8 x0) H1_ (by kernel_rfl) (by kernel_rfl) (by kernel_rfl) ((by kernel_rfl : _ = val (aload T20 5 (.pointer (some ⟨A, off + 0 * 1, none⟩)) H1_) H1_).trans (val_of ((aload_at gH1_A).trans (aloadC_cellB (n := 1) (by kernel_rfl) (by kernel_rfl) c0)))) ?_
  refine aops_go 1 60 (by kernel_rfl) ?_
  refine aops_see 15 (.int .i64 x0) (see_int (x := IntKind.i64.wrap x0) (by kernel_rfl) (w64 rfl (by omega) (by omega))) ?_
  refine aops_go 1 60 (by kernel_rfl) ?_
  obtain ⟨H2_, hH2_⟩ : ∃ x : Heap, x = H1_.push ⟨[Value.int .i64 0, .int .u32 0], 26, false⟩ := ⟨_, rfl⟩
  have nH2_ : H2_.n = H1_.n + 1 := by rw [hH2_]; rfl
  refine aops_val 5 (.pointer (some ⟨H1_.n, 0, none⟩)) H2_ (by kernel_rfl) (by kernel_rfl) (by kernel_rfl) ((by kernel_rfl : _ = some (Res.val (.pointer (some ⟨H1_.n, 0, none⟩)), H1_.push ⟨[Value.int .i64 0, .int .u32 0], 26, false⟩)).trans (by rw [← hH2_])) ?_
  have gH2_H1__n : H2_.get (H1_.n) = some ⟨[Value.int .i64 0, .int .u32 0], 26, false⟩ := by rw [hH2_]; exact (Heap.get_push _ _ _).trans (if_pos rfl)
  obtain ⟨H3_, hH3_⟩ : ∃ x : Heap, x = H2_.put (H1_.n) ⟨[Value.int .i64 x0, .int .u32 0], 26, false⟩ := ⟨_, rfl⟩
  have nH3_ : H3_.n = H2_.n := by rw [hH3_]; rfl
  refine aops_skip H3_ (by kernel_rfl) (by kernel_rfl) (by kernel_rfl) ((by kernel_rfl : _ = skp (astore T20 26 (.pointer (some ⟨H1_.n, 0, none⟩)) (.agg #[.int .i64 x0, .int .u32 0]) H2_)).trans (by rw [astore_to gH2_H1__n (by kernel_rfl), ← hH3_]; rfl)) ?_
  refine aops_end (by kernel_rfl) (then_normal ?_)
  refine aw_code f23bccc_eq ?_
  refine aw_then ?_
  refine aw_code f23bccca_eq ?_
  refine aw_reg ?_
  refine aops_go 1 60 (by kernel_rfl) ?_
  have gH3_H1__n : H3_.get (H1_.n) = some ⟨[Value.int .i64 x0, .int .u32 0], 26, false⟩ := by rw [hH3_]; exact (Heap.get_put _ _ _ _).trans (if_pos rfl)
  refine aops_val 18 (.int .i64 x0) H3_ (by kernel_rfl) (by kernel_rfl) (by kernel_rfl) ((by kernel_rfl : _ = val (aload T20 3 (.pointer (some ⟨H1_.n, 0, none⟩)) H3_) H3_).trans (val_of ((aload_at gH3_H1__n).trans (by kernel_rfl)))) ?_
  refine aops_ask 19 (.int .i64 2) 15 #[.int .i64 x0] (by kernel_rfl) (by kernel_rfl) (by kernel_rfl) (by kernel_rfl) (show some (Value.int .i64 (sizeV x0)) = _ by rw [hz]) ?_
  refine aops_go 1 60 (by kernel_rfl) ?_
  refine aops_end (by kernel_rfl) (then_normal ?_)
  refine aw_code f23bcccc_eq ?_
  refine aw_then ?_
  refine aw_code f23bcccca_eq ?_
  refine aw_block ?_
  refine aw_code f23bccccaa_eq ?_
  refine aw_then ?_
  refine aw_code f23bccccaaa_eq ?_
  refine aw_reg ?_
  refine aops_go 3 60 (by kernel_rfl) ?_
  refine aops_end (by kernel_rfl) (then_normal ?_)
  refine aw_code f23bccccaac_eq ?_
  refine aw_cond (t := false) (by kernel_rfl) ?_
  refine aw_code f23bccccaacc_eq ?_
  refine aw_then ?_
  refine aw_code f23bccccaacca_eq ?_
  refine aw_reg ?_
  refine aops_go 5 60 (by kernel_rfl) ?_
  refine aops_end (by kernel_rfl) (then_normal ?_)
  refine aw_code f23bccccaaccc_eq ?_
  refine aw_cond (t := true) (see_bool (by kernel_rfl) ((by simp; omega) : ((decide ((2 : Int) > ((n : Nat) : Int)))) = true)) ?_
  refine aw_code f23bccccaaccca_eq ?_
  refine aw_then ?_
  refine aw_code f23bccccaacccaa_eq ?_
  refine aw_reg ?_
  refine aops_go 1 60 (by kernel_rfl) ?_
  have gH3_H_n : H3_.get (H.n) = some ⟨[Value.int .i64 0, .int .u32 0], 26, false⟩ := by rw [hH3_, Heap.get_put, if_neg (by omega)]; rw [hH2_, Heap.get_push, if_neg (by omega)]; rw [hH1_]; exact (Heap.get_push _ _ _).trans (if_pos rfl)
  obtain ⟨H4_, hH4_⟩ : ∃ x : Heap, x = H3_.put (H.n) ⟨[Value.int .i64 0, .int .u32 0], 26, false⟩ := ⟨_, rfl⟩
  have nH4_ : H4_.n = H3_.n := by rw [hH4_]; rfl
  refine aops_skip H4_ (by kernel_rfl) (by kernel_rfl) (by kernel_rfl) ((by kernel_rfl : _ = skp (astore T20 26 (.pointer (some ⟨H.n, 0, none⟩)) (.agg #[.int .i64 0, .int .u32 0]) H3_)).trans (by rw [astore_to gH3_H_n (by kernel_rfl), ← hH4_]; rfl)) ?_
  refine aops_go 2 60 (by kernel_rfl) ?_
  refine aops_end (by kernel_rfl) (then_normal ?_)
  have gH4_H_n : H4_.get (H.n) = some ⟨[Value.int .i64 0, .int .u32 0], 26, false⟩ := by rw [hH4_]; exact (Heap.get_put _ _ _ _).trans (if_pos rfl)
  refine aw_ret (blk_ret (then_ret (bodyQ_ret_to (.tuple #[.agg #[.int .i64 0, .int .u32 0], .int .i64 0, .int .i64 10]) H4_ (ares_cell2 2 26 3 4 (.pointer (some ⟨H.n, 0, none⟩)) H4_ (by kernel_rfl) (by kernel_rfl) (by kernel_rfl) (by kernel_rfl) (by kernel_rfl) ((aload_at gH4_H_n).trans (by kernel_rfl))) (by kernel_rfl) ?_)))
  exact ⟨rfl, ⟨by omega, fun b hb => by rw [hH4_, Heap.get_put, if_neg (by omega), hH3_, Heap.get_put, if_neg (by omega), hH2_, Heap.get_push, if_neg (by omega), hH1_, Heap.get_push, if_neg (by omega)]⟩⟩
theorem dec_5s {H : Heap} {A off n cap : Nat} {cells : List Value} {e : TypeId} {ro : Bool} {x0 : Int} (gA : H.get A = some ⟨cells, e, ro⟩) (hA : A < H.n) (hn : 1 ≤ n) (hn2 : n < 5) (c0 : cells[off + 0 * 1]? = some (.int .u8 x0)) (l0 : 0 ≤ x0) (m0 : x0 < 256) (hz : sizeV x0 = 5) : ACall Tryd.prog T20 23 #[.slice (some ⟨A, off, none⟩) n cap] H fun r H' => r = decR (0, 0, 0, 10) ∧ Up H.n H H' := by
  refine acall_of' 48 (initTm 0 #[.slice (some ⟨A, off, none⟩) n cap]) rfl f23_fn f23_body rfl rfl ?_
  refine aw_code f23b_eq ?_
  refine aw_then ?_
  refine aw_code f23ba_eq ?_
  refine aw_reg ?_
  obtain ⟨H1_, hH1_⟩ : ∃ x : Heap, x = H.push ⟨[Value.int .i64 0, .int .u32 0], 26, false⟩ := ⟨_, rfl⟩
  have nH1_ : H1_.n = H.n + 1 := by rw [hH1_]; rfl
  refine aops_val 2 (.pointer (some ⟨H.n, 0, none⟩)) H1_ (by kernel_rfl) (by kernel_rfl) (by kernel_rfl) ((by kernel_rfl : _ = some (Res.val (.pointer (some ⟨H.n, 0, none⟩)), H.push ⟨[Value.int .i64 0, .int .u32 0], 26, false⟩)).trans (by rw [← hH1_])) ?_
  refine aops_go 2 60 (by kernel_rfl) ?_
  refine aops_end (by kernel_rfl) (then_normal ?_)
  refine aw_code f23bc_eq ?_
  refine aw_then ?_
  refine aw_code f23bca_eq ?_
  refine aw_then ?_
  refine aw_code f23bcaa_eq ?_
  refine aw_reg ?_
  refine aops_go 3 60 (by kernel_rfl) ?_
  refine aops_end (by kernel_rfl) (then_normal ?_)
  refine aw_code f23bcac_eq ?_
  refine aw_cond (t := false) (see_bool (by kernel_rfl) ((by simp; omega) : ((((n : Nat) : Int) == 0)) = false)) ?_
  refine aw_skip (then_normal ?_)
  refine aw_code f23bcc_eq ?_
  refine aw_then ?_
  refine aw_code f23bcca_eq ?_
  refine aw_reg ?_
  refine aops_go 1 60 (by kernel_rfl) ?_
  refine aops_val 13 (.pointer (some ⟨A, off + 0 * 1, none⟩)) H1_ (by kernel_rfl) (by kernel_rfl) (by kernel_rfl) ((by kernel_rfl : _ = val (bif (0 : Nat).blt n then some (.pointer (some ⟨A, off + 0 * 1, none⟩)) else none) H1_).trans (by rw [show (0 : Nat).blt n = true from (by rw [blt_dec]; simp only [decide_eq_true_eq]; omega)]; rfl)) ?_
  have gH1_A : H1_.get (A) = some ⟨cells, e, ro⟩ := by rw [hH1_, Heap.get_push, if_neg (by omega)]; exact gA
  refine aops_val 14 (.int .u8 x0) H1_ (by kernel_rfl) (by kernel_rfl) (by kernel_rfl) ((by kernel_rfl : _ = val (aload T20 5 (.pointer (some ⟨A, off + 0 * 1, none⟩)) H1_) H1_).trans (val_of ((aload_at gH1_A).trans (aloadC_cellB (n := 1) (by kernel_rfl) (by kernel_rfl) c0)))) ?_
  refine aops_go 1 60 (by kernel_rfl) ?_
  refine aops_see 15 (.int .i64 x0) (see_int (x := IntKind.i64.wrap x0) (by kernel_rfl) (w64 rfl (by omega) (by omega))) ?_
  refine aops_go 1 60 (by kernel_rfl) ?_
  obtain ⟨H2_, hH2_⟩ : ∃ x : Heap, x = H1_.push ⟨[Value.int .i64 0, .int .u32 0], 26, false⟩ := ⟨_, rfl⟩
  have nH2_ : H2_.n = H1_.n + 1 := by rw [hH2_]; rfl
  refine aops_val 5 (.pointer (some ⟨H1_.n, 0, none⟩)) H2_ (by kernel_rfl) (by kernel_rfl) (by kernel_rfl) ((by kernel_rfl : _ = some (Res.val (.pointer (some ⟨H1_.n, 0, none⟩)), H1_.push ⟨[Value.int .i64 0, .int .u32 0], 26, false⟩)).trans (by rw [← hH2_])) ?_
  have gH2_H1__n : H2_.get (H1_.n) = some ⟨[Value.int .i64 0, .int .u32 0], 26, false⟩ := by rw [hH2_]; exact (Heap.get_push _ _ _).trans (if_pos rfl)
  obtain ⟨H3_, hH3_⟩ : ∃ x : Heap, x = H2_.put (H1_.n) ⟨[Value.int .i64 x0, .int .u32 0], 26, false⟩ := ⟨_, rfl⟩
  have nH3_ : H3_.n = H2_.n := by rw [hH3_]; rfl
  refine aops_skip H3_ (by kernel_rfl) (by kernel_rfl) (by kernel_rfl) ((by kernel_rfl : _ = skp (astore T20 26 (.pointer (some ⟨H1_.n, 0, none⟩)) (.agg #[.int .i64 x0, .int .u32 0]) H2_)).trans (by rw [astore_to gH2_H1__n (by kernel_rfl), ← hH3_]; rfl)) ?_
  refine aops_end (by kernel_rfl) (then_normal ?_)
  refine aw_code f23bccc_eq ?_
  refine aw_then ?_
  refine aw_code f23bccca_eq ?_
  refine aw_reg ?_
  refine aops_go 1 60 (by kernel_rfl) ?_
  have gH3_H1__n : H3_.get (H1_.n) = some ⟨[Value.int .i64 x0, .int .u32 0], 26, false⟩ := by rw [hH3_]; exact (Heap.get_put _ _ _ _).trans (if_pos rfl)
  refine aops_val 18 (.int .i64 x0) H3_ (by kernel_rfl) (by kernel_rfl) (by kernel_rfl) ((by kernel_rfl : _ = val (aload T20 3 (.pointer (some ⟨H1_.n, 0, none⟩)) H3_) H3_).trans (val_of ((aload_at gH3_H1__n).trans (by kernel_rfl)))) ?_
  refine aops_ask 19 (.int .i64 5) 15 #[.int .i64 x0] (by kernel_rfl) (by kernel_rfl) (by kernel_rfl) (by kernel_rfl) (show some (Value.int .i64 (sizeV x0)) = _ by rw [hz]) ?_
  refine aops_go 1 60 (by kernel_rfl) ?_
  refine aops_end (by kernel_rfl) (then_normal ?_)
  refine aw_code f23bcccc_eq ?_
  refine aw_then ?_
  refine aw_code f23bcccca_eq ?_
  refine aw_block ?_
  refine aw_code f23bccccaa_eq ?_
  refine aw_then ?_
  refine aw_code f23bccccaaa_eq ?_
  refine aw_reg ?_
  refine aops_go 3 60 (by kernel_rfl) ?_
  refine aops_end (by kernel_rfl) (then_normal ?_)
  refine aw_code f23bccccaac_eq ?_
  refine aw_cond (t := false) (by kernel_rfl) ?_
  refine aw_code f23bccccaacc_eq ?_
  refine aw_then ?_
  refine aw_code f23bccccaacca_eq ?_
  refine aw_reg ?_
  refine aops_go 5 60 (by kernel_rfl) ?_
  refine aops_end (by kernel_rfl) (then_normal ?_)
  refine aw_code f23bccccaaccc_eq ?_
  refine aw_cond (t := true) (see_bool (by kernel_rfl) ((by simp; omega) : ((decide ((5 : Int) > ((n : Nat) : Int)))) = true)) ?_
  refine aw_code f23bccccaaccca_eq ?_
  refine aw_then ?_
  refine aw_code f23bccccaacccaa_eq ?_
  refine aw_reg ?_
  refine aops_go 1 60 (by kernel_rfl) ?_
  have gH3_H_n : H3_.get (H.n) = some ⟨[Value.int .i64 0, .int .u32 0], 26, false⟩ := by rw [hH3_, Heap.get_put, if_neg (by omega)]; rw [hH2_, Heap.get_push, if_neg (by omega)]; rw [hH1_]; exact (Heap.get_push _ _ _).trans (if_pos rfl)
  obtain ⟨H4_, hH4_⟩ : ∃ x : Heap, x = H3_.put (H.n) ⟨[Value.int .i64 0, .int .u32 0], 26, false⟩ := ⟨_, rfl⟩
  have nH4_ : H4_.n = H3_.n := by rw [hH4_]; rfl
  refine aops_skip H4_ (by kernel_rfl) (by kernel_rfl) (by kernel_rfl) ((by kernel_rfl : _ = skp (astore T20 26 (.pointer (some ⟨H.n, 0, none⟩)) (.agg #[.int .i64 0, .int .u32 0]) H3_)).trans (by rw [astore_to gH3_H_n (by kernel_rfl), ← hH4_]; rfl)) ?_
  refine aops_go 2 60 (by kernel_rfl) ?_
  refine aops_end (by kernel_rfl) (then_normal ?_)
  have gH4_H_n : H4_.get (H.n) = some ⟨[Value.int .i64 0, .int .u32 0], 26, false⟩ := by rw [hH4_]; exact (Heap.get_put _ _ _ _).trans (if_pos rfl)
  refine aw_ret (blk_ret (then_ret (bodyQ_ret_to (.tuple #[.agg #[.int .i64 0, .int .u32 0], .int .i64 0, .int .i64 10]) H4_ (ares_cell2 2 26 3 4 (.pointer (some ⟨H.n, 0, none⟩)) H4_ (by kernel_rfl) (by kernel_rfl) (by kernel_rfl) (by kernel_rfl) (by kernel_rfl) ((aload_at gH4_H_n).trans (by kernel_rfl))) (by kernel_rfl) ?_)))
  exact ⟨rfl, ⟨by omega, fun b hb => by rw [hH4_, Heap.get_put, if_neg (by omega), hH3_, Heap.get_put, if_neg (by omega), hH2_, Heap.get_push, if_neg (by omega), hH1_, Heap.get_push, if_neg (by omega)]⟩⟩
noncomputable def f35b : Code := Tryd.f35.body.getD .skip
noncomputable def f35ba : Code := cl f35b
noncomputable def f35bao : Array Oper := opsOf f35ba
noncomputable def f35bc : Code := cr f35b
noncomputable def f35bca : Code := cl f35bc
noncomputable def f35bcaa : Code := cl f35bca
noncomputable def f35bcaao : Array Oper := opsOf f35bcaa
noncomputable def f35bcac : Code := cr f35bca
noncomputable def f35bcaca : Code := cl f35bcac
noncomputable def f35bcacaa : Code := cl f35bcaca
noncomputable def f35bcacaao : Array Oper := opsOf f35bcacaa
noncomputable def f35bcc : Code := cr f35bc
noncomputable def f35bcca : Code := cl f35bcc
noncomputable def f35bccao : Array Oper := opsOf f35bcca
noncomputable def f35bccc : Code := cr f35bcc
noncomputable def f35bccca : Code := cl f35bccc
noncomputable def f35bcccao : Array Oper := opsOf f35bccca
noncomputable def f35bcccc : Code := cr f35bccc
noncomputable def f35bcccca : Code := cl f35bcccc
noncomputable def f35bccccaa : Code := cl f35bcccca
noncomputable def f35bccccaao : Array Oper := opsOf f35bccccaa
noncomputable def f35bccccac : Code := cr f35bcccca
noncomputable def f35bccccaca : Code := cl f35bccccac
noncomputable def f35bccccacaa : Code := cl f35bccccaca
noncomputable def f35bccccacaao : Array Oper := opsOf f35bccccacaa
noncomputable def f35bccccc : Code := cr f35bcccc
noncomputable def f35bccccca : Code := cl f35bccccc
noncomputable def f35bcccccaa : Code := cl f35bccccca
noncomputable def f35bcccccaao : Array Oper := opsOf f35bcccccaa
noncomputable def f35bcccccac : Code := cr f35bccccca
noncomputable def f35bcccccaca : Code := cl f35bcccccac
noncomputable def f35bcccccacaa : Code := cl f35bcccccaca
noncomputable def f35bcccccacaao : Array Oper := opsOf f35bcccccacaa
noncomputable def f35bcccccc : Code := cr f35bccccc
noncomputable def f35bcccccca : Code := cl f35bcccccc
noncomputable def f35bccccccaa : Code := cl f35bcccccca
noncomputable def f35bccccccaao : Array Oper := opsOf f35bccccccaa
noncomputable def f35bccccccac : Code := cr f35bcccccca
noncomputable def f35bccccccaca : Code := cl f35bccccccac
noncomputable def f35bccccccacaa : Code := cl f35bccccccaca
noncomputable def f35bccccccacaaa : Code := cl f35bccccccacaa
noncomputable def f35bccccccacaaaa : Code := cl f35bccccccacaaa
noncomputable def f35bccccccacaaaao : Array Oper := opsOf f35bccccccacaaaa
noncomputable def f35bccccccacaaac : Code := cr f35bccccccacaaa
noncomputable def f35bccccccacaac : Code := cr f35bccccccacaa
noncomputable def f35bccccccacaaca : Code := cl f35bccccccacaac
noncomputable def f35bccccccacaacaa : Code := cl f35bccccccacaaca
noncomputable def f35bccccccacaacaao : Array Oper := opsOf f35bccccccacaacaa
noncomputable def f35bccccccacaacc : Code := cr f35bccccccacaac
noncomputable def f35bccccccacaacco : Array Oper := opsOf f35bccccccacaacc
noncomputable def f35bccccccc : Code := cr f35bcccccc
noncomputable def f35bccccccca : Code := cl f35bccccccc
noncomputable def f35bcccccccao : Array Oper := opsOf f35bccccccca
theorem f35ba_eq : f35ba = .region 0 f35bao false := by kernel_rfl
theorem f35bcaa_eq : f35bcaa = .region 1 f35bcaao false := by kernel_rfl
theorem f35bcacaa_eq : f35bcacaa = .region 2 f35bcacaao false := by kernel_rfl
theorem f35bcaca_eq : f35bcaca = .seq f35bcacaa .ret := by kernel_rfl
theorem f35bcac_eq : f35bcac = .cond (cop f35bcac) f35bcaca .skip := by kernel_rfl
theorem f35bca_eq : f35bca = .seq f35bcaa f35bcac := by kernel_rfl
theorem f35bcca_eq : f35bcca = .region 3 f35bccao false := by kernel_rfl
theorem f35bccca_eq : f35bccca = .region 4 f35bcccao false := by kernel_rfl
theorem f35bccccaa_eq : f35bccccaa = .region 5 f35bccccaao false := by kernel_rfl
theorem f35bccccacaa_eq : f35bccccacaa = .region 6 f35bccccacaao false := by kernel_rfl
theorem f35bccccaca_eq : f35bccccaca = .seq f35bccccacaa .ret := by kernel_rfl
theorem f35bccccac_eq : f35bccccac = .cond (cop f35bccccac) f35bccccaca .skip := by kernel_rfl
theorem f35bcccca_eq : f35bcccca = .seq f35bccccaa f35bccccac := by kernel_rfl
theorem f35bcccccaa_eq : f35bcccccaa = .region 7 f35bcccccaao false := by kernel_rfl
theorem f35bcccccacaa_eq : f35bcccccacaa = .region 8 f35bcccccacaao false := by kernel_rfl
theorem f35bcccccaca_eq : f35bcccccaca = .seq f35bcccccacaa .ret := by kernel_rfl
theorem f35bcccccac_eq : f35bcccccac = .cond (cop f35bcccccac) f35bcccccaca .skip := by kernel_rfl
theorem f35bccccca_eq : f35bccccca = .seq f35bcccccaa f35bcccccac := by kernel_rfl
theorem f35bccccccaa_eq : f35bccccccaa = .region 9 f35bccccccaao false := by kernel_rfl
theorem f35bccccccacaaaa_eq : f35bccccccacaaaa = .region 10 f35bccccccacaaaao false := by kernel_rfl
theorem f35bccccccacaaac_eq : f35bccccccacaaac = .cond (cop f35bccccccacaaac) .skip (.exit 0) := by kernel_rfl
theorem f35bccccccacaaa_eq : f35bccccccacaaa = .seq f35bccccccacaaaa f35bccccccacaaac := by kernel_rfl
theorem f35bccccccacaacaa_eq : f35bccccccacaacaa = .region 12 f35bccccccacaacaao true := by kernel_rfl
theorem f35bccccccacaaca_eq : f35bccccccacaaca = .block 1 f35bccccccacaacaa := by kernel_rfl
theorem f35bccccccacaacc_eq : f35bccccccacaacc = .region 11 f35bccccccacaacco false := by kernel_rfl
theorem f35bccccccacaac_eq : f35bccccccacaac = .seq f35bccccccacaaca f35bccccccacaacc := by kernel_rfl
theorem f35bccccccacaa_eq : f35bccccccacaa = .seq f35bccccccacaaa f35bccccccacaac := by kernel_rfl
theorem f35bccccccaca_eq : f35bccccccaca = .loop f35bccccccacaa := by kernel_rfl
theorem f35bccccccac_eq : f35bccccccac = .block 0 f35bccccccaca := by kernel_rfl
theorem f35bcccccca_eq : f35bcccccca = .seq f35bccccccaa f35bccccccac := by kernel_rfl
theorem f35bccccccca_eq : f35bccccccca = .region 13 f35bcccccccao false := by kernel_rfl
theorem f35bccccccc_eq : f35bccccccc = .seq f35bccccccca .ret := by kernel_rfl
theorem f35bcccccc_eq : f35bcccccc = .seq f35bcccccca f35bccccccc := by kernel_rfl
theorem f35bccccc_eq : f35bccccc = .seq f35bccccca f35bcccccc := by kernel_rfl
theorem f35bcccc_eq : f35bcccc = .seq f35bcccca f35bccccc := by kernel_rfl
theorem f35bccc_eq : f35bccc = .seq f35bccca f35bcccc := by kernel_rfl
theorem f35bcc_eq : f35bcc = .seq f35bcca f35bccc := by kernel_rfl
theorem f35bc_eq : f35bc = .seq f35bca f35bcc := by kernel_rfl
theorem f35b_eq : f35b = .seq f35ba f35bc := by kernel_rfl
theorem f35_body : Tryd.f35.body = some f35b := by kernel_rfl
theorem f35_fn : T20.fn 35 = some Tryd.f35 := by kernel_rfl
theorem rdec_nil {H : Heap} {pt : Option Addr} {cap : Nat} : ACall Tryd.prog T20 35 #[.slice pt 0 cap] H fun r H' => r = rdecR (0, 0, 0, 10) ∧ Up H.n H H' := by
  refine acall_of' 49 (initTm 0 #[(.slice pt 0 cap)]) rfl f35_fn f35_body rfl rfl ?_
  refine aw_code f35b_eq ?_
  refine aw_then ?_
  refine aw_code f35ba_eq ?_
  refine aw_reg ?_
  obtain ⟨H1_, hH1_⟩ : ∃ x : Heap, x = H.push ⟨[Value.int .i64 0, .int .u32 0], 26, false⟩ := ⟨_, rfl⟩
  have nH1_ : H1_.n = H.n + 1 := by rw [hH1_]; rfl
  refine aops_val 2 (.pointer (some ⟨H.n, 0, none⟩)) H1_ (by kernel_rfl) (by kernel_rfl) (by kernel_rfl) ((by kernel_rfl : _ = some (Res.val (.pointer (some ⟨H.n, 0, none⟩)), H.push ⟨[Value.int .i64 0, .int .u32 0], 26, false⟩)).trans (by rw [← hH1_])) ?_
  refine aops_go 2 60 (by kernel_rfl) ?_
  refine aops_end (by kernel_rfl) (then_normal ?_)
  refine aw_code f35bc_eq ?_
  refine aw_then ?_
  refine aw_code f35bca_eq ?_
  refine aw_then ?_
  refine aw_code f35bcaa_eq ?_
  refine aw_reg ?_
  refine aops_go 3 60 (by kernel_rfl) ?_
  refine aops_end (by kernel_rfl) (then_normal ?_)
  refine aw_code f35bcac_eq ?_
  refine aw_cond (t := true) (by kernel_rfl) ?_
  refine aw_code f35bcaca_eq ?_
  refine aw_then ?_
  refine aw_code f35bcacaa_eq ?_
  refine aw_reg ?_
  refine aops_go 1 60 (by kernel_rfl) ?_
  have gH1_H_n : H1_.get (H.n) = some ⟨[Value.int .i64 0, .int .u32 0], 26, false⟩ := by rw [hH1_]; exact (Heap.get_push _ _ _).trans (if_pos rfl)
  obtain ⟨H2_, hH2_⟩ : ∃ x : Heap, x = H1_.put (H.n) ⟨[Value.int .i64 0, .int .u32 0], 26, false⟩ := ⟨_, rfl⟩
  have nH2_ : H2_.n = H1_.n := by rw [hH2_]; rfl
  refine aops_skip H2_ (by kernel_rfl) (by kernel_rfl) (by kernel_rfl) ((by kernel_rfl : _ = skp (astore T20 26 (.pointer (some ⟨H.n, 0, none⟩)) (.agg #[.int .i64 0, .int .u32 0]) H1_)).trans (by rw [astore_to gH1_H_n (by kernel_rfl), ← hH2_]; rfl)) ?_
  refine aops_go 2 60 (by kernel_rfl) ?_
  refine aops_end (by kernel_rfl) (then_normal ?_)
  have gH2_H_n : H2_.get (H.n) = some ⟨[Value.int .i64 0, .int .u32 0], 26, false⟩ := by rw [hH2_]; exact (Heap.get_put _ _ _ _).trans (if_pos rfl)
  refine aw_ret (then_ret (bodyQ_ret_to (.tuple #[.agg #[.int .i64 0, .int .u32 0], .int .i64 0, .bool true]) H2_ (ares_cell2 2 26 3 4 (.pointer (some ⟨H.n, 0, none⟩)) H2_ (by kernel_rfl) (by kernel_rfl) (by kernel_rfl) (by kernel_rfl) (by kernel_rfl) ((aload_at gH2_H_n).trans (by kernel_rfl))) (by kernel_rfl) ?_))
  exact ⟨rfl, ⟨by omega, fun b hb => by rw [hH2_, Heap.get_put, if_neg (by omega), hH1_, Heap.get_push, if_neg (by omega)]⟩⟩
theorem rdec_0 {H : Heap} {A off n cap : Nat} {cells : List Value} {e : TypeId} {ro : Bool} {x0 : Int} (gA : H.get A = some ⟨cells, e, ro⟩) (hA : A < H.n) (hn : 1 ≤ n) (c0 : cells[off + 0 * 1]? = some (.int .u8 x0)) (l0 : 0 ≤ x0) (m0 : x0 < 256) (hz : sizeV x0 = 0) : ACall Tryd.prog T20 35 #[.slice (some ⟨A, off, none⟩) n cap] H fun r H' => r = rdecR (0, 0, 0, 12) ∧ Up H.n H H' := by
  refine acall_of' 49 (initTm 0 #[.slice (some ⟨A, off, none⟩) n cap]) rfl f35_fn f35_body rfl rfl ?_
  refine aw_code f35b_eq ?_
  refine aw_then ?_
  refine aw_code f35ba_eq ?_
  refine aw_reg ?_
  obtain ⟨H1_, hH1_⟩ : ∃ x : Heap, x = H.push ⟨[Value.int .i64 0, .int .u32 0], 26, false⟩ := ⟨_, rfl⟩
  have nH1_ : H1_.n = H.n + 1 := by rw [hH1_]; rfl
  refine aops_val 2 (.pointer (some ⟨H.n, 0, none⟩)) H1_ (by kernel_rfl) (by kernel_rfl) (by kernel_rfl) ((by kernel_rfl : _ = some (Res.val (.pointer (some ⟨H.n, 0, none⟩)), H.push ⟨[Value.int .i64 0, .int .u32 0], 26, false⟩)).trans (by rw [← hH1_])) ?_
  refine aops_go 2 60 (by kernel_rfl) ?_
  refine aops_end (by kernel_rfl) (then_normal ?_)
  refine aw_code f35bc_eq ?_
  refine aw_then ?_
  refine aw_code f35bca_eq ?_
  refine aw_then ?_
  refine aw_code f35bcaa_eq ?_
  refine aw_reg ?_
  refine aops_go 3 60 (by kernel_rfl) ?_
  refine aops_end (by kernel_rfl) (then_normal ?_)
  refine aw_code f35bcac_eq ?_
  refine aw_cond (t := false) (see_bool (by kernel_rfl) ((by simp; omega) : ((((n : Nat) : Int) == 0)) = false)) ?_
  refine aw_skip (then_normal ?_)
  refine aw_code f35bcc_eq ?_
  refine aw_then ?_
  refine aw_code f35bcca_eq ?_
  refine aw_reg ?_
  refine aops_go 1 60 (by kernel_rfl) ?_
  refine aops_val 13 (.pointer (some ⟨A, off + 0 * 1, none⟩)) H1_ (by kernel_rfl) (by kernel_rfl) (by kernel_rfl) ((by kernel_rfl : _ = val (bif (0 : Nat).blt n then some (.pointer (some ⟨A, off + 0 * 1, none⟩)) else none) H1_).trans (by rw [show (0 : Nat).blt n = true from (by rw [blt_dec]; simp only [decide_eq_true_eq]; omega)]; rfl)) ?_
  have gH1_A : H1_.get (A) = some ⟨cells, e, ro⟩ := by rw [hH1_, Heap.get_push, if_neg (by omega)]; exact gA
  refine aops_val 14 (.int .u8 x0) H1_ (by kernel_rfl) (by kernel_rfl) (by kernel_rfl) ((by kernel_rfl : _ = val (aload T20 5 (.pointer (some ⟨A, off + 0 * 1, none⟩)) H1_) H1_).trans (val_of ((aload_at gH1_A).trans (aloadC_cellB (n := 1) (by kernel_rfl) (by kernel_rfl) c0)))) ?_
  refine aops_go 1 60 (by kernel_rfl) ?_
  refine aops_see 15 (.int .i64 x0) (see_int (x := IntKind.i64.wrap x0) (by kernel_rfl) (w64 rfl (by omega) (by omega))) ?_
  refine aops_go 1 60 (by kernel_rfl) ?_
  obtain ⟨H2_, hH2_⟩ : ∃ x : Heap, x = H1_.push ⟨[Value.int .i64 0, .int .u32 0], 26, false⟩ := ⟨_, rfl⟩
  have nH2_ : H2_.n = H1_.n + 1 := by rw [hH2_]; rfl
  refine aops_val 5 (.pointer (some ⟨H1_.n, 0, none⟩)) H2_ (by kernel_rfl) (by kernel_rfl) (by kernel_rfl) ((by kernel_rfl : _ = some (Res.val (.pointer (some ⟨H1_.n, 0, none⟩)), H1_.push ⟨[Value.int .i64 0, .int .u32 0], 26, false⟩)).trans (by rw [← hH2_])) ?_
  have gH2_H1__n : H2_.get (H1_.n) = some ⟨[Value.int .i64 0, .int .u32 0], 26, false⟩ := by rw [hH2_]; exact (Heap.get_push _ _ _).trans (if_pos rfl)
  obtain ⟨H3_, hH3_⟩ : ∃ x : Heap, x = H2_.put (H1_.n) ⟨[Value.int .i64 x0, .int .u32 0], 26, false⟩ := ⟨_, rfl⟩
  have nH3_ : H3_.n = H2_.n := by rw [hH3_]; rfl
  refine aops_skip H3_ (by kernel_rfl) (by kernel_rfl) (by kernel_rfl) ((by kernel_rfl : _ = skp (astore T20 26 (.pointer (some ⟨H1_.n, 0, none⟩)) (.agg #[.int .i64 x0, .int .u32 0]) H2_)).trans (by rw [astore_to gH2_H1__n (by kernel_rfl), ← hH3_]; rfl)) ?_
  refine aops_end (by kernel_rfl) (then_normal ?_)
  refine aw_code f35bccc_eq ?_
  refine aw_then ?_
  refine aw_code f35bccca_eq ?_
  refine aw_reg ?_
  refine aops_go 1 60 (by kernel_rfl) ?_
  have gH3_H1__n : H3_.get (H1_.n) = some ⟨[Value.int .i64 x0, .int .u32 0], 26, false⟩ := by rw [hH3_]; exact (Heap.get_put _ _ _ _).trans (if_pos rfl)
  refine aops_val 18 (.int .i64 x0) H3_ (by kernel_rfl) (by kernel_rfl) (by kernel_rfl) ((by kernel_rfl : _ = val (aload T20 3 (.pointer (some ⟨H1_.n, 0, none⟩)) H3_) H3_).trans (val_of ((aload_at gH3_H1__n).trans (by kernel_rfl)))) ?_
  refine aops_ask 19 (.int .i64 0) 29 #[.int .i64 x0] (by kernel_rfl) (by kernel_rfl) (by kernel_rfl) (by kernel_rfl) (show some (Value.int .i64 (sizeV x0)) = _ by rw [hz]) ?_
  refine aops_go 1 60 (by kernel_rfl) ?_
  refine aops_end (by kernel_rfl) (then_normal ?_)
  refine aw_code f35bcccc_eq ?_
  refine aw_then ?_
  refine aw_code f35bcccca_eq ?_
  refine aw_then ?_
  refine aw_code f35bccccaa_eq ?_
  refine aw_reg ?_
  refine aops_go 2 60 (by kernel_rfl) ?_
  refine aops_end (by kernel_rfl) (then_normal ?_)
  refine aw_code f35bccccac_eq ?_
  refine aw_cond (t := true) (by kernel_rfl) ?_
  refine aw_code f35bccccaca_eq ?_
  refine aw_then ?_
  refine aw_code f35bccccacaa_eq ?_
  refine aw_reg ?_
  refine aops_go 1 60 (by kernel_rfl) ?_
  have gH3_H_n : H3_.get (H.n) = some ⟨[Value.int .i64 0, .int .u32 0], 26, false⟩ := by rw [hH3_, Heap.get_put, if_neg (by omega)]; rw [hH2_, Heap.get_push, if_neg (by omega)]; rw [hH1_]; exact (Heap.get_push _ _ _).trans (if_pos rfl)
  obtain ⟨H4_, hH4_⟩ : ∃ x : Heap, x = H3_.put (H.n) ⟨[Value.int .i64 0, .int .u32 0], 26, false⟩ := ⟨_, rfl⟩
  have nH4_ : H4_.n = H3_.n := by rw [hH4_]; rfl
  refine aops_skip H4_ (by kernel_rfl) (by kernel_rfl) (by kernel_rfl) ((by kernel_rfl : _ = skp (astore T20 26 (.pointer (some ⟨H.n, 0, none⟩)) (.agg #[.int .i64 0, .int .u32 0]) H3_)).trans (by rw [astore_to gH3_H_n (by kernel_rfl), ← hH4_]; rfl)) ?_
  refine aops_go 2 60 (by kernel_rfl) ?_
  refine aops_end (by kernel_rfl) (then_normal ?_)
  have gH4_H_n : H4_.get (H.n) = some ⟨[Value.int .i64 0, .int .u32 0], 26, false⟩ := by rw [hH4_]; exact (Heap.get_put _ _ _ _).trans (if_pos rfl)
  refine aw_ret (then_ret (bodyQ_ret_to (.tuple #[.agg #[.int .i64 0, .int .u32 0], .int .i64 0, .bool false]) H4_ (ares_cell2 2 26 3 4 (.pointer (some ⟨H.n, 0, none⟩)) H4_ (by kernel_rfl) (by kernel_rfl) (by kernel_rfl) (by kernel_rfl) (by kernel_rfl) ((aload_at gH4_H_n).trans (by kernel_rfl))) (by kernel_rfl) ?_))
  exact ⟨rfl, ⟨by omega, fun b hb => by rw [hH4_, Heap.get_put, if_neg (by omega), hH3_, Heap.get_put, if_neg (by omega), hH2_, Heap.get_push, if_neg (by omega), hH1_, Heap.get_push, if_neg (by omega)]⟩⟩
theorem rdec_1 {H : Heap} {A off n cap : Nat} {cells : List Value} {e : TypeId} {ro : Bool} {x0 : Int} (gA : H.get A = some ⟨cells, e, ro⟩) (hA : A < H.n) (hn : 1 ≤ n) (c0 : cells[off + 0 * 1]? = some (.int .u8 x0)) (l0 : 0 ≤ x0) (m0 : x0 < 256) (hz : sizeV x0 = 1) : ACall Tryd.prog T20 35 #[.slice (some ⟨A, off, none⟩) n cap] H fun r H' => r = rdecR (x0, 0, 1, 0) ∧ Up H.n H H' := by
  refine acall_of' 49 (initTm 0 #[.slice (some ⟨A, off, none⟩) n cap]) rfl f35_fn f35_body rfl rfl ?_
  refine aw_code f35b_eq ?_
  refine aw_then ?_
  refine aw_code f35ba_eq ?_
  refine aw_reg ?_
  obtain ⟨H1_, hH1_⟩ : ∃ x : Heap, x = H.push ⟨[Value.int .i64 0, .int .u32 0], 26, false⟩ := ⟨_, rfl⟩
  have nH1_ : H1_.n = H.n + 1 := by rw [hH1_]; rfl
  refine aops_val 2 (.pointer (some ⟨H.n, 0, none⟩)) H1_ (by kernel_rfl) (by kernel_rfl) (by kernel_rfl) ((by kernel_rfl : _ = some (Res.val (.pointer (some ⟨H.n, 0, none⟩)), H.push ⟨[Value.int .i64 0, .int .u32 0], 26, false⟩)).trans (by rw [← hH1_])) ?_
  refine aops_go 2 60 (by kernel_rfl) ?_
  refine aops_end (by kernel_rfl) (then_normal ?_)
  refine aw_code f35bc_eq ?_
  refine aw_then ?_
  refine aw_code f35bca_eq ?_
  refine aw_then ?_
  refine aw_code f35bcaa_eq ?_
  refine aw_reg ?_
  refine aops_go 3 60 (by kernel_rfl) ?_
  refine aops_end (by kernel_rfl) (then_normal ?_)
  refine aw_code f35bcac_eq ?_
  refine aw_cond (t := false) (see_bool (by kernel_rfl) ((by simp; omega) : ((((n : Nat) : Int) == 0)) = false)) ?_
  refine aw_skip (then_normal ?_)
  refine aw_code f35bcc_eq ?_
  refine aw_then ?_
  refine aw_code f35bcca_eq ?_
  refine aw_reg ?_
  refine aops_go 1 60 (by kernel_rfl) ?_
  refine aops_val 13 (.pointer (some ⟨A, off + 0 * 1, none⟩)) H1_ (by kernel_rfl) (by kernel_rfl) (by kernel_rfl) ((by kernel_rfl : _ = val (bif (0 : Nat).blt n then some (.pointer (some ⟨A, off + 0 * 1, none⟩)) else none) H1_).trans (by rw [show (0 : Nat).blt n = true from (by rw [blt_dec]; simp only [decide_eq_true_eq]; omega)]; rfl)) ?_
  have gH1_A : H1_.get (A) = some ⟨cells, e, ro⟩ := by rw [hH1_, Heap.get_push, if_neg (by omega)]; exact gA
  refine aops_val 14 (.int .u8 x0) H1_ (by kernel_rfl) (by kernel_rfl) (by kernel_rfl) ((by kernel_rfl : _ = val (aload T20 5 (.pointer (some ⟨A, off + 0 * 1, none⟩)) H1_) H1_).trans (val_of ((aload_at gH1_A).trans (aloadC_cellB (n := 1) (by kernel_rfl) (by kernel_rfl) c0)))) ?_
  refine aops_go 1 60 (by kernel_rfl) ?_
  refine aops_see 15 (.int .i64 x0) (see_int (x := IntKind.i64.wrap x0) (by kernel_rfl) (w64 rfl (by omega) (by omega))) ?_
  refine aops_go 1 60 (by kernel_rfl) ?_
  obtain ⟨H2_, hH2_⟩ : ∃ x : Heap, x = H1_.push ⟨[Value.int .i64 0, .int .u32 0], 26, false⟩ := ⟨_, rfl⟩
  have nH2_ : H2_.n = H1_.n + 1 := by rw [hH2_]; rfl
  refine aops_val 5 (.pointer (some ⟨H1_.n, 0, none⟩)) H2_ (by kernel_rfl) (by kernel_rfl) (by kernel_rfl) ((by kernel_rfl : _ = some (Res.val (.pointer (some ⟨H1_.n, 0, none⟩)), H1_.push ⟨[Value.int .i64 0, .int .u32 0], 26, false⟩)).trans (by rw [← hH2_])) ?_
  have gH2_H1__n : H2_.get (H1_.n) = some ⟨[Value.int .i64 0, .int .u32 0], 26, false⟩ := by rw [hH2_]; exact (Heap.get_push _ _ _).trans (if_pos rfl)
  obtain ⟨H3_, hH3_⟩ : ∃ x : Heap, x = H2_.put (H1_.n) ⟨[Value.int .i64 x0, .int .u32 0], 26, false⟩ := ⟨_, rfl⟩
  have nH3_ : H3_.n = H2_.n := by rw [hH3_]; rfl
  refine aops_skip H3_ (by kernel_rfl) (by kernel_rfl) (by kernel_rfl) ((by kernel_rfl : _ = skp (astore T20 26 (.pointer (some ⟨H1_.n, 0, none⟩)) (.agg #[.int .i64 x0, .int .u32 0]) H2_)).trans (by rw [astore_to gH2_H1__n (by kernel_rfl), ← hH3_]; rfl)) ?_
  refine aops_end (by kernel_rfl) (then_normal ?_)
  refine aw_code f35bccc_eq ?_
  refine aw_then ?_
  refine aw_code f35bccca_eq ?_
  refine aw_reg ?_
  refine aops_go 1 60 (by kernel_rfl) ?_
  have gH3_H1__n : H3_.get (H1_.n) = some ⟨[Value.int .i64 x0, .int .u32 0], 26, false⟩ := by rw [hH3_]; exact (Heap.get_put _ _ _ _).trans (if_pos rfl)
  refine aops_val 18 (.int .i64 x0) H3_ (by kernel_rfl) (by kernel_rfl) (by kernel_rfl) ((by kernel_rfl : _ = val (aload T20 3 (.pointer (some ⟨H1_.n, 0, none⟩)) H3_) H3_).trans (val_of ((aload_at gH3_H1__n).trans (by kernel_rfl)))) ?_
  refine aops_ask 19 (.int .i64 1) 29 #[.int .i64 x0] (by kernel_rfl) (by kernel_rfl) (by kernel_rfl) (by kernel_rfl) (show some (Value.int .i64 (sizeV x0)) = _ by rw [hz]) ?_
  refine aops_go 1 60 (by kernel_rfl) ?_
  refine aops_end (by kernel_rfl) (then_normal ?_)
  refine aw_code f35bcccc_eq ?_
  refine aw_then ?_
  refine aw_code f35bcccca_eq ?_
  refine aw_then ?_
  refine aw_code f35bccccaa_eq ?_
  refine aw_reg ?_
  refine aops_go 2 60 (by kernel_rfl) ?_
  refine aops_end (by kernel_rfl) (then_normal ?_)
  refine aw_code f35bccccac_eq ?_
  refine aw_cond (t := false) (by kernel_rfl) ?_
  refine aw_skip (then_normal ?_)
  refine aw_code f35bccccc_eq ?_
  refine aw_then ?_
  refine aw_code f35bccccca_eq ?_
  refine aw_then ?_
  refine aw_code f35bcccccaa_eq ?_
  refine aw_reg ?_
  refine aops_go 4 60 (by kernel_rfl) ?_
  refine aops_end (by kernel_rfl) (then_normal ?_)
  refine aw_code f35bcccccac_eq ?_
  refine aw_cond (t := false) (see_bool (by kernel_rfl) ((by simp; omega) : ((decide (((n : Nat) : Int) < 1))) = false)) ?_
  refine aw_skip (then_normal ?_)
  refine aw_code f35bcccccc_eq ?_
  refine aw_then ?_
  refine aw_code f35bcccccca_eq ?_
  refine aw_then ?_
  refine aw_code f35bccccccaa_eq ?_
  refine aw_reg ?_
  refine aops_go 1 60 (by kernel_rfl) ?_
  refine aops_end (by kernel_rfl) (then_normal ?_)
  refine aw_code f35bccccccac_eq ?_
  refine aw_block ?_
  refine aw_code f35bccccccaca_eq ?_
  refine aw_loop_k fun K1_ hK1_ => ?_
  refine aw_code f35bccccccacaa_eq ?_
  refine aw_then ?_
  refine aw_code f35bccccccacaaa_eq ?_
  refine aw_then ?_
  refine aw_code f35bccccccacaaaa_eq ?_
  refine aw_reg ?_
  refine aops_go 3 60 (by kernel_rfl) ?_
  refine aops_end (by kernel_rfl) (then_normal ?_)
  refine aw_code f35bccccccacaaac_eq ?_
  refine aw_cond (t := false) (by kernel_rfl) ?_
  refine aw_exit (then_exit (then_exit (blk_hit (then_normal ?_))))
  refine aw_code f35bccccccc_eq ?_
  refine aw_then ?_
  refine aw_code f35bccccccca_eq ?_
  refine aw_reg ?_
  refine aops_val 47 (.agg #[.int .i64 x0, .int .u32 0]) H3_ (by kernel_rfl) (by kernel_rfl) (by kernel_rfl) ((by kernel_rfl : _ = val (aload T20 26 (.pointer (some ⟨H1_.n, 0, none⟩)) H3_) H3_).trans (val_of ((aload_at gH3_H1__n).trans (by kernel_rfl)))) ?_
  refine aops_go 1 60 (by kernel_rfl) ?_
  have gH3_H_n : H3_.get (H.n) = some ⟨[Value.int .i64 0, .int .u32 0], 26, false⟩ := by rw [hH3_, Heap.get_put, if_neg (by omega)]; rw [hH2_, Heap.get_push, if_neg (by omega)]; rw [hH1_]; exact (Heap.get_push _ _ _).trans (if_pos rfl)
  obtain ⟨H4_, hH4_⟩ : ∃ x : Heap, x = H3_.put (H.n) ⟨[Value.int .i64 x0, .int .u32 0], 26, false⟩ := ⟨_, rfl⟩
  have nH4_ : H4_.n = H3_.n := by rw [hH4_]; rfl
  refine aops_skip H4_ (by kernel_rfl) (by kernel_rfl) (by kernel_rfl) ((by kernel_rfl : _ = skp (astore T20 26 (.pointer (some ⟨H.n, 0, none⟩)) (.agg #[.int .i64 x0, .int .u32 0]) H3_)).trans (by rw [astore_to gH3_H_n (by kernel_rfl), ← hH4_]; rfl)) ?_
  refine aops_go 2 60 (by kernel_rfl) ?_
  refine aops_end (by kernel_rfl) (then_normal ?_)
  have gH4_H_n : H4_.get (H.n) = some ⟨[Value.int .i64 x0, .int .u32 0], 26, false⟩ := by rw [hH4_]; exact (Heap.get_put _ _ _ _).trans (if_pos rfl)
  refine aw_ret (bodyQ_ret_to (.tuple #[.agg #[.int .i64 x0, .int .u32 0], .int .i64 1, .bool false]) H4_ (ares_cell2 2 26 3 4 (.pointer (some ⟨H.n, 0, none⟩)) H4_ (by kernel_rfl) (by kernel_rfl) (by kernel_rfl) (by kernel_rfl) (by kernel_rfl) ((aload_at gH4_H_n).trans (by kernel_rfl))) (by kernel_rfl) ?_)
  exact ⟨rfl, ⟨by omega, fun b hb => by rw [hH4_, Heap.get_put, if_neg (by omega), hH3_, Heap.get_put, if_neg (by omega), hH2_, Heap.get_push, if_neg (by omega), hH1_, Heap.get_push, if_neg (by omega)]⟩⟩
theorem rdec_2 {H : Heap} {A off n cap : Nat} {cells : List Value} {e : TypeId} {ro : Bool} {x0 : Int} (gA : H.get A = some ⟨cells, e, ro⟩) (hA : A < H.n) (hn : 2 ≤ n) (c0 : cells[off + 0 * 1]? = some (.int .u8 x0)) (l0 : 0 ≤ x0) (m0 : x0 < 256) {b1 : Int} (c1 : cells[off + 1 * 1]? = some (.int .u8 b1)) (l1 : 0 ≤ b1) (m1 : b1 < 256) (hz : sizeV x0 = 2) : ACall Tryd.prog T20 35 #[.slice (some ⟨A, off, none⟩) n cap] H fun r H' => r = rdecR (x0, b1, 2, 0) ∧ Up H.n H H' := by
  refine acall_of' 49 (initTm 0 #[.slice (some ⟨A, off, none⟩) n cap]) rfl f35_fn f35_body rfl rfl ?_
  refine aw_code f35b_eq ?_
  refine aw_then ?_
  refine aw_code f35ba_eq ?_
  refine aw_reg ?_
  obtain ⟨H1_, hH1_⟩ : ∃ x : Heap, x = H.push ⟨[Value.int .i64 0, .int .u32 0], 26, false⟩ := ⟨_, rfl⟩
  have nH1_ : H1_.n = H.n + 1 := by rw [hH1_]; rfl
  refine aops_val 2 (.pointer (some ⟨H.n, 0, none⟩)) H1_ (by kernel_rfl) (by kernel_rfl) (by kernel_rfl) ((by kernel_rfl : _ = some (Res.val (.pointer (some ⟨H.n, 0, none⟩)), H.push ⟨[Value.int .i64 0, .int .u32 0], 26, false⟩)).trans (by rw [← hH1_])) ?_
  refine aops_go 2 60 (by kernel_rfl) ?_
  refine aops_end (by kernel_rfl) (then_normal ?_)
  refine aw_code f35bc_eq ?_
  refine aw_then ?_
  refine aw_code f35bca_eq ?_
  refine aw_then ?_
  refine aw_code f35bcaa_eq ?_
  refine aw_reg ?_
  refine aops_go 3 60 (by kernel_rfl) ?_
  refine aops_end (by kernel_rfl) (then_normal ?_)
  refine aw_code f35bcac_eq ?_
  refine aw_cond (t := false) (see_bool (by kernel_rfl) ((by simp; omega) : ((((n : Nat) : Int) == 0)) = false)) ?_
  refine aw_skip (then_normal ?_)
  refine aw_code f35bcc_eq ?_
  refine aw_then ?_
  refine aw_code f35bcca_eq ?_
  refine aw_reg ?_
  refine aops_go 1 60 (by kernel_rfl) ?_
  refine aops_val 13 (.pointer (some ⟨A, off + 0 * 1, none⟩)) H1_ (by kernel_rfl) (by kernel_rfl) (by kernel_rfl) ((by kernel_rfl : _ = val (bif (0 : Nat).blt n then some (.pointer (some ⟨A, off + 0 * 1, none⟩)) else none) H1_).trans (by rw [show (0 : Nat).blt n = true from (by rw [blt_dec]; simp only [decide_eq_true_eq]; omega)]; rfl)) ?_
  have gH1_A : H1_.get (A) = some ⟨cells, e, ro⟩ := by rw [hH1_, Heap.get_push, if_neg (by omega)]; exact gA
  refine aops_val 14 (.int .u8 x0) H1_ (by kernel_rfl) (by kernel_rfl) (by kernel_rfl) ((by kernel_rfl : _ = val (aload T20 5 (.pointer (some ⟨A, off + 0 * 1, none⟩)) H1_) H1_).trans (val_of ((aload_at gH1_A).trans (aloadC_cellB (n := 1) (by kernel_rfl) (by kernel_rfl) c0)))) ?_
  refine aops_go 1 60 (by kernel_rfl) ?_
  refine aops_see 15 (.int .i64 x0) (see_int (x := IntKind.i64.wrap x0) (by kernel_rfl) (w64 rfl (by omega) (by omega))) ?_
  refine aops_go 1 60 (by kernel_rfl) ?_
  obtain ⟨H2_, hH2_⟩ : ∃ x : Heap, x = H1_.push ⟨[Value.int .i64 0, .int .u32 0], 26, false⟩ := ⟨_, rfl⟩
  have nH2_ : H2_.n = H1_.n + 1 := by rw [hH2_]; rfl
  refine aops_val 5 (.pointer (some ⟨H1_.n, 0, none⟩)) H2_ (by kernel_rfl) (by kernel_rfl) (by kernel_rfl) ((by kernel_rfl : _ = some (Res.val (.pointer (some ⟨H1_.n, 0, none⟩)), H1_.push ⟨[Value.int .i64 0, .int .u32 0], 26, false⟩)).trans (by rw [← hH2_])) ?_
  have gH2_H1__n : H2_.get (H1_.n) = some ⟨[Value.int .i64 0, .int .u32 0], 26, false⟩ := by rw [hH2_]; exact (Heap.get_push _ _ _).trans (if_pos rfl)
  obtain ⟨H3_, hH3_⟩ : ∃ x : Heap, x = H2_.put (H1_.n) ⟨[Value.int .i64 x0, .int .u32 0], 26, false⟩ := ⟨_, rfl⟩
  have nH3_ : H3_.n = H2_.n := by rw [hH3_]; rfl
  refine aops_skip H3_ (by kernel_rfl) (by kernel_rfl) (by kernel_rfl) ((by kernel_rfl : _ = skp (astore T20 26 (.pointer (some ⟨H1_.n, 0, none⟩)) (.agg #[.int .i64 x0, .int .u32 0]) H2_)).trans (by rw [astore_to gH2_H1__n (by kernel_rfl), ← hH3_]; rfl)) ?_
  refine aops_end (by kernel_rfl) (then_normal ?_)
  refine aw_code f35bccc_eq ?_
  refine aw_then ?_
  refine aw_code f35bccca_eq ?_
  refine aw_reg ?_
  refine aops_go 1 60 (by kernel_rfl) ?_
  have gH3_H1__n : H3_.get (H1_.n) = some ⟨[Value.int .i64 x0, .int .u32 0], 26, false⟩ := by rw [hH3_]; exact (Heap.get_put _ _ _ _).trans (if_pos rfl)
  refine aops_val 18 (.int .i64 x0) H3_ (by kernel_rfl) (by kernel_rfl) (by kernel_rfl) ((by kernel_rfl : _ = val (aload T20 3 (.pointer (some ⟨H1_.n, 0, none⟩)) H3_) H3_).trans (val_of ((aload_at gH3_H1__n).trans (by kernel_rfl)))) ?_
  refine aops_ask 19 (.int .i64 2) 29 #[.int .i64 x0] (by kernel_rfl) (by kernel_rfl) (by kernel_rfl) (by kernel_rfl) (show some (Value.int .i64 (sizeV x0)) = _ by rw [hz]) ?_
  refine aops_go 1 60 (by kernel_rfl) ?_
  refine aops_end (by kernel_rfl) (then_normal ?_)
  refine aw_code f35bcccc_eq ?_
  refine aw_then ?_
  refine aw_code f35bcccca_eq ?_
  refine aw_then ?_
  refine aw_code f35bccccaa_eq ?_
  refine aw_reg ?_
  refine aops_go 2 60 (by kernel_rfl) ?_
  refine aops_end (by kernel_rfl) (then_normal ?_)
  refine aw_code f35bccccac_eq ?_
  refine aw_cond (t := false) (by kernel_rfl) ?_
  refine aw_skip (then_normal ?_)
  refine aw_code f35bccccc_eq ?_
  refine aw_then ?_
  refine aw_code f35bccccca_eq ?_
  refine aw_then ?_
  refine aw_code f35bcccccaa_eq ?_
  refine aw_reg ?_
  refine aops_go 4 60 (by kernel_rfl) ?_
  refine aops_end (by kernel_rfl) (then_normal ?_)
  refine aw_code f35bcccccac_eq ?_
  refine aw_cond (t := false) (see_bool (by kernel_rfl) ((by simp; omega) : ((decide (((n : Nat) : Int) < 2))) = false)) ?_
  refine aw_skip (then_normal ?_)
  refine aw_code f35bcccccc_eq ?_
  refine aw_then ?_
  refine aw_code f35bcccccca_eq ?_
  refine aw_then ?_
  refine aw_code f35bccccccaa_eq ?_
  refine aw_reg ?_
  refine aops_go 1 60 (by kernel_rfl) ?_
  refine aops_end (by kernel_rfl) (then_normal ?_)
  refine aw_code f35bccccccac_eq ?_
  refine aw_block ?_
  refine aw_code f35bccccccaca_eq ?_
  refine aw_loop_k fun K1_ hK1_ => ?_
  refine aw_code f35bccccccacaa_eq ?_
  refine aw_then ?_
  refine aw_code f35bccccccacaaa_eq ?_
  refine aw_then ?_
  refine aw_code f35bccccccacaaaa_eq ?_
  refine aw_reg ?_
  refine aops_go 3 60 (by kernel_rfl) ?_
  refine aops_end (by kernel_rfl) (then_normal ?_)
  refine aw_code f35bccccccacaaac_eq ?_
  refine aw_cond (t := true) (by kernel_rfl) ?_
  refine aw_skip (then_normal ?_)
  refine aw_code f35bccccccacaac_eq ?_
  refine aw_then ?_
  refine aw_code f35bccccccacaaca_eq ?_
  refine aw_block ?_
  refine aw_code f35bccccccacaacaa_eq ?_
  refine aw_draw0w (by kernel_rfl) ?_
  refine aops_go 1 60 (by kernel_rfl) ?_
  refine aops_val 34 (.int .u32 0) H3_ (by kernel_rfl) (by kernel_rfl) (by kernel_rfl) ((by kernel_rfl : _ = val (aload T20 22 (.pointer (some ⟨H1_.n, 1, none⟩)) H3_) H3_).trans (val_of ((aload_at gH3_H1__n).trans (by kernel_rfl)))) ?_
  refine aops_go 2 60 (by kernel_rfl) ?_
  refine aops_val 37 (.pointer (some ⟨A, off + 1 * 1, none⟩)) H3_ (by kernel_rfl) (by kernel_rfl) (by kernel_rfl) ((by kernel_rfl : _ = val (bif (1 : Nat).blt n then some (.pointer (some ⟨A, off + 1 * 1, none⟩)) else none) H3_).trans (by rw [show (1 : Nat).blt n = true from (by rw [blt_dec]; simp only [decide_eq_true_eq]; omega)]; rfl)) ?_
  have gH3_A : H3_.get (A) = some ⟨cells, e, ro⟩ := by rw [hH3_, Heap.get_put, if_neg (by omega)]; rw [hH2_, Heap.get_push, if_neg (by omega)]; exact gH1_A
  refine aops_val 38 (.int .u8 b1) H3_ (by kernel_rfl) (by kernel_rfl) (by kernel_rfl) ((by kernel_rfl : _ = val (aload T20 5 (.pointer (some ⟨A, off + 1 * 1, none⟩)) H3_) H3_).trans (val_of ((aload_at gH3_A).trans (aloadC_cellB (n := 1) (by kernel_rfl) (by kernel_rfl) c1)))) ?_
  refine aops_go 1 60 (by kernel_rfl) ?_
  refine aops_see 39 (.int .u32 b1) (see_int (x := IntKind.u32.wrap b1) (by kernel_rfl) (wu32 rfl (by omega) (by omega))) ?_
  refine aops_go 5 60 (by kernel_rfl) ?_
  refine aops_see 44 (.int .u32 (b1 * 1)) (see_int (x := (IntKind.u32.wrap (b1 * 1))) (by kernel_rfl) (wu32 rfl (by omega) (by omega))) ?_
  refine aops_go 1 60 (by kernel_rfl) ?_
  refine aops_see 45 (.int .u32 (b1 * 1)) (see_int (x := (IntKind.u32.wrap (((BitVec.ofInt 32 0 ||| BitVec.ofInt 32 (b1 * 1)).toNat : Nat) : Int))) (by kernel_rfl) ((or_add 0 (b1 * 1) 32 (by omega) (by omega) (by omega) (by omega) (by omega) (by omega) (by omega)).trans (Int.zero_add _))) ?_
  refine aops_go 1 60 (by kernel_rfl) ?_
  obtain ⟨H4_, hH4_⟩ : ∃ x : Heap, x = H3_.put (H1_.n) ⟨[Value.int .i64 x0, .int .u32 (b1 * 1)], 26, false⟩ := ⟨_, rfl⟩
  have nH4_ : H4_.n = H3_.n := by rw [hH4_]; rfl
  refine aops_skip H4_ (by kernel_rfl) (by kernel_rfl) (by kernel_rfl) ((by kernel_rfl : _ = skp (astore T20 22 (.pointer (some ⟨H1_.n, 1, none⟩)) (.int .u32 (b1 * 1)) H3_)).trans (by rw [astore_to gH3_H1__n (by kernel_rfl), ← hH4_]; rfl)) ?_
  refine aops_end (by kernel_rfl) (blk_normal (then_normal ?_))
  refine aw_code f35bccccccacaacc_eq ?_
  refine aw_reg ?_
  refine aops_go 3 60 (by kernel_rfl) ?_
  refine aops_end (by kernel_rfl) (then_normal (hK1_ _ ?_))
  refine aw_loop_k fun K2_ hK2_ => ?_
  refine aw_code f35bccccccacaa_eq ?_
  refine aw_then ?_
  refine aw_code f35bccccccacaaa_eq ?_
  refine aw_then ?_
  refine aw_code f35bccccccacaaaa_eq ?_
  refine aw_reg ?_
  refine aops_go 3 60 (by kernel_rfl) ?_
  refine aops_end (by kernel_rfl) (then_normal ?_)
  refine aw_code f35bccccccacaaac_eq ?_
  refine aw_cond (t := false) (by kernel_rfl) ?_
  refine aw_exit (then_exit (then_exit (blk_hit (then_normal ?_))))
  refine aw_code f35bccccccc_eq ?_
  refine aw_then ?_
  refine aw_code f35bccccccca_eq ?_
  refine aw_reg ?_
  have gH4_H1__n : H4_.get (H1_.n) = some ⟨[Value.int .i64 x0, .int .u32 (b1 * 1)], 26, false⟩ := by rw [hH4_]; exact (Heap.get_put _ _ _ _).trans (if_pos rfl)
  refine aops_val 47 (.agg #[.int .i64 x0, .int .u32 (b1 * 1)]) H4_ (by kernel_rfl) (by kernel_rfl) (by kernel_rfl) ((by kernel_rfl : _ = val (aload T20 26 (.pointer (some ⟨H1_.n, 0, none⟩)) H4_) H4_).trans (val_of ((aload_at gH4_H1__n).trans (by kernel_rfl)))) ?_
  refine aops_go 1 60 (by kernel_rfl) ?_
  have gH4_H_n : H4_.get (H.n) = some ⟨[Value.int .i64 0, .int .u32 0], 26, false⟩ := by rw [hH4_, Heap.get_put, if_neg (by omega)]; rw [hH3_, Heap.get_put, if_neg (by omega)]; rw [hH2_, Heap.get_push, if_neg (by omega)]; rw [hH1_]; exact (Heap.get_push _ _ _).trans (if_pos rfl)
  obtain ⟨H5_, hH5_⟩ : ∃ x : Heap, x = H4_.put (H.n) ⟨[Value.int .i64 x0, .int .u32 (b1 * 1)], 26, false⟩ := ⟨_, rfl⟩
  have nH5_ : H5_.n = H4_.n := by rw [hH5_]; rfl
  refine aops_skip H5_ (by kernel_rfl) (by kernel_rfl) (by kernel_rfl) ((by kernel_rfl : _ = skp (astore T20 26 (.pointer (some ⟨H.n, 0, none⟩)) (.agg #[.int .i64 x0, .int .u32 (b1 * 1)]) H4_)).trans (by rw [astore_to gH4_H_n (by kernel_rfl), ← hH5_]; rfl)) ?_
  refine aops_go 2 60 (by kernel_rfl) ?_
  refine aops_end (by kernel_rfl) (then_normal ?_)
  have gH5_H_n : H5_.get (H.n) = some ⟨[Value.int .i64 x0, .int .u32 (b1 * 1)], 26, false⟩ := by rw [hH5_]; exact (Heap.get_put _ _ _ _).trans (if_pos rfl)
  refine aw_ret (bodyQ_ret_to (.tuple #[.agg #[.int .i64 x0, .int .u32 (b1 * 1)], .int .i64 2, .bool false]) H5_ (ares_cell2 2 26 3 4 (.pointer (some ⟨H.n, 0, none⟩)) H5_ (by kernel_rfl) (by kernel_rfl) (by kernel_rfl) (by kernel_rfl) (by kernel_rfl) ((aload_at gH5_H_n).trans (by kernel_rfl))) (by kernel_rfl) ?_)
  exact ⟨by rw [Int.mul_one]; rfl, ⟨by omega, fun b hb => by rw [hH5_, Heap.get_put, if_neg (by omega), hH4_, Heap.get_put, if_neg (by omega), hH3_, Heap.get_put, if_neg (by omega), hH2_, Heap.get_push, if_neg (by omega), hH1_, Heap.get_push, if_neg (by omega)]⟩⟩
theorem rdec_5 {H : Heap} {A off n cap : Nat} {cells : List Value} {e : TypeId} {ro : Bool} {x0 : Int} (gA : H.get A = some ⟨cells, e, ro⟩) (hA : A < H.n) (hn : 5 ≤ n) (c0 : cells[off + 0 * 1]? = some (.int .u8 x0)) (l0 : 0 ≤ x0) (m0 : x0 < 256) {b1 : Int} (c1 : cells[off + 1 * 1]? = some (.int .u8 b1)) (l1 : 0 ≤ b1) (m1 : b1 < 256) {b2 : Int} (c2 : cells[off + 2 * 1]? = some (.int .u8 b2)) (l2 : 0 ≤ b2) (m2 : b2 < 256) {b3 : Int} (c3 : cells[off + 3 * 1]? = some (.int .u8 b3)) (l3 : 0 ≤ b3) (m3 : b3 < 256) {b4 : Int} (c4 : cells[off + 4 * 1]? = some (.int .u8 b4)) (l4 : 0 ≤ b4) (m4 : b4 < 256) (hz : sizeV x0 = 5) : ACall Tryd.prog T20 35 #[.slice (some ⟨A, off, none⟩) n cap] H fun r H' => r = rdecR (x0, num4 b1 b2 b3 b4, 5, 0) ∧ Up H.n H H' := by
  refine acall_of' 49 (initTm 0 #[.slice (some ⟨A, off, none⟩) n cap]) rfl f35_fn f35_body rfl rfl ?_
  refine aw_code f35b_eq ?_
  refine aw_then ?_
  refine aw_code f35ba_eq ?_
  refine aw_reg ?_
  obtain ⟨H1_, hH1_⟩ : ∃ x : Heap, x = H.push ⟨[Value.int .i64 0, .int .u32 0], 26, false⟩ := ⟨_, rfl⟩
  have nH1_ : H1_.n = H.n + 1 := by rw [hH1_]; rfl
  refine aops_val 2 (.pointer (some ⟨H.n, 0, none⟩)) H1_ (by kernel_rfl) (by kernel_rfl) (by kernel_rfl) ((by kernel_rfl : _ = some (Res.val (.pointer (some ⟨H.n, 0, none⟩)), H.push ⟨[Value.int .i64 0, .int .u32 0], 26, false⟩)).trans (by rw [← hH1_])) ?_
  refine aops_go 2 60 (by kernel_rfl) ?_
  refine aops_end (by kernel_rfl) (then_normal ?_)
  refine aw_code f35bc_eq ?_
  refine aw_then ?_
  refine aw_code f35bca_eq ?_
  refine aw_then ?_
  refine aw_code f35bcaa_eq ?_
  refine aw_reg ?_
  refine aops_go 3 60 (by kernel_rfl) ?_
  refine aops_end (by kernel_rfl) (then_normal ?_)
  refine aw_code f35bcac_eq ?_
  refine aw_cond (t := false) (see_bool (by kernel_rfl) ((by simp; omega) : ((((n : Nat) : Int) == 0)) = false)) ?_
  refine aw_skip (then_normal ?_)
  refine aw_code f35bcc_eq ?_
  refine aw_then ?_
  refine aw_code f35bcca_eq ?_
  refine aw_reg ?_
  refine aops_go 1 60 (by kernel_rfl) ?_
  refine aops_val 13 (.pointer (some ⟨A, off + 0 * 1, none⟩)) H1_ (by kernel_rfl) (by kernel_rfl) (by kernel_rfl) ((by kernel_rfl : _ = val (bif (0 : Nat).blt n then some (.pointer (some ⟨A, off + 0 * 1, none⟩)) else none) H1_).trans (by rw [show (0 : Nat).blt n = true from (by rw [blt_dec]; simp only [decide_eq_true_eq]; omega)]; rfl)) ?_
  have gH1_A : H1_.get (A) = some ⟨cells, e, ro⟩ := by rw [hH1_, Heap.get_push, if_neg (by omega)]; exact gA
  refine aops_val 14 (.int .u8 x0) H1_ (by kernel_rfl) (by kernel_rfl) (by kernel_rfl) ((by kernel_rfl : _ = val (aload T20 5 (.pointer (some ⟨A, off + 0 * 1, none⟩)) H1_) H1_).trans (val_of ((aload_at gH1_A).trans (aloadC_cellB (n := 1) (by kernel_rfl) (by kernel_rfl) c0)))) ?_
  refine aops_go 1 60 (by kernel_rfl) ?_
  refine aops_see 15 (.int .i64 x0) (see_int (x := IntKind.i64.wrap x0) (by kernel_rfl) (w64 rfl (by omega) (by omega))) ?_
  refine aops_go 1 60 (by kernel_rfl) ?_
  obtain ⟨H2_, hH2_⟩ : ∃ x : Heap, x = H1_.push ⟨[Value.int .i64 0, .int .u32 0], 26, false⟩ := ⟨_, rfl⟩
  have nH2_ : H2_.n = H1_.n + 1 := by rw [hH2_]; rfl
  refine aops_val 5 (.pointer (some ⟨H1_.n, 0, none⟩)) H2_ (by kernel_rfl) (by kernel_rfl) (by kernel_rfl) ((by kernel_rfl : _ = some (Res.val (.pointer (some ⟨H1_.n, 0, none⟩)), H1_.push ⟨[Value.int .i64 0, .int .u32 0], 26, false⟩)).trans (by rw [← hH2_])) ?_
  have gH2_H1__n : H2_.get (H1_.n) = some ⟨[Value.int .i64 0, .int .u32 0], 26, false⟩ := by rw [hH2_]; exact (Heap.get_push _ _ _).trans (if_pos rfl)
  obtain ⟨H3_, hH3_⟩ : ∃ x : Heap, x = H2_.put (H1_.n) ⟨[Value.int .i64 x0, .int .u32 0], 26, false⟩ := ⟨_, rfl⟩
  have nH3_ : H3_.n = H2_.n := by rw [hH3_]; rfl
  refine aops_skip H3_ (by kernel_rfl) (by kernel_rfl) (by kernel_rfl) ((by kernel_rfl : _ = skp (astore T20 26 (.pointer (some ⟨H1_.n, 0, none⟩)) (.agg #[.int .i64 x0, .int .u32 0]) H2_)).trans (by rw [astore_to gH2_H1__n (by kernel_rfl), ← hH3_]; rfl)) ?_
  refine aops_end (by kernel_rfl) (then_normal ?_)
  refine aw_code f35bccc_eq ?_
  refine aw_then ?_
  refine aw_code f35bccca_eq ?_
  refine aw_reg ?_
  refine aops_go 1 60 (by kernel_rfl) ?_
  have gH3_H1__n : H3_.get (H1_.n) = some ⟨[Value.int .i64 x0, .int .u32 0], 26, false⟩ := by rw [hH3_]; exact (Heap.get_put _ _ _ _).trans (if_pos rfl)
  refine aops_val 18 (.int .i64 x0) H3_ (by kernel_rfl) (by kernel_rfl) (by kernel_rfl) ((by kernel_rfl : _ = val (aload T20 3 (.pointer (some ⟨H1_.n, 0, none⟩)) H3_) H3_).trans (val_of ((aload_at gH3_H1__n).trans (by kernel_rfl)))) ?_
  refine aops_ask 19 (.int .i64 5) 29 #[.int .i64 x0] (by kernel_rfl) (by kernel_rfl) (by kernel_rfl) (by kernel_rfl) (show some (Value.int .i64 (sizeV x0)) = _ by rw [hz]) ?_
  refine aops_go 1 60 (by kernel_rfl) ?_
  refine aops_end (by kernel_rfl) (then_normal ?_)
  refine aw_code f35bcccc_eq ?_
  refine aw_then ?_
  refine aw_code f35bcccca_eq ?_
  refine aw_then ?_
  refine aw_code f35bccccaa_eq ?_
  refine aw_reg ?_
  refine aops_go 2 60 (by kernel_rfl) ?_
  refine aops_end (by kernel_rfl) (then_normal ?_)
  refine aw_code f35bccccac_eq ?_
  refine aw_cond (t := false) (by kernel_rfl) ?_
  refine aw_skip (then_normal ?_)
  refine aw_code f35bccccc_eq ?_
  refine aw_then ?_
  refine aw_code f35bccccca_eq ?_
  refine aw_then ?_
  refine aw_code f35bcccccaa_eq ?_
  refine aw_reg ?_
  refine aops_go 4 60 (by kernel_rfl) ?_
  refine aops_end (by kernel_rfl) (then_normal ?_)
  refine aw_code f35bcccccac_eq ?_
  refine aw_cond (t := false) (see_bool (by kernel_rfl) ((by simp; omega) : ((decide (((n : Nat) : Int) < 5))) = false)) ?_
  refine aw_skip (then_normal ?_)
  refine aw_code f35bcccccc_eq ?_
  refine aw_then ?_
  refine aw_code f35bcccccca_eq ?_
  refine aw_then ?_
  refine aw_code f35bccccccaa_eq ?_
  refine aw_reg ?_
  refine aops_go 1 60 (by kernel_rfl) ?_
  refine aops_end (by kernel_rfl) (then_normal ?_)
  refine aw_code f35bccccccac_eq ?_
  refine aw_block ?_
  refine aw_code f35bccccccaca_eq ?_
  refine aw_loop_k fun K1_ hK1_ => ?_
  refine aw_code f35bccccccacaa_eq ?_
  refine aw_then ?_
  refine aw_code f35bccccccacaaa_eq ?_
  refine aw_then ?_
  refine aw_code f35bccccccacaaaa_eq ?_
  refine aw_reg ?_
  refine aops_go 3 60 (by kernel_rfl) ?_
  refine aops_end (by kernel_rfl) (then_normal ?_)
  refine aw_code f35bccccccacaaac_eq ?_
  refine aw_cond (t := true) (by kernel_rfl) ?_
  refine aw_skip (then_normal ?_)
  refine aw_code f35bccccccacaac_eq ?_
  refine aw_then ?_
  refine aw_code f35bccccccacaaca_eq ?_
  refine aw_block ?_
  refine aw_code f35bccccccacaacaa_eq ?_
  refine aw_draw0w (by kernel_rfl) ?_
  refine aops_go 1 60 (by kernel_rfl) ?_
  refine aops_val 34 (.int .u32 0) H3_ (by kernel_rfl) (by kernel_rfl) (by kernel_rfl) ((by kernel_rfl : _ = val (aload T20 22 (.pointer (some ⟨H1_.n, 1, none⟩)) H3_) H3_).trans (val_of ((aload_at gH3_H1__n).trans (by kernel_rfl)))) ?_
  refine aops_go 2 60 (by kernel_rfl) ?_
  refine aops_val 37 (.pointer (some ⟨A, off + 1 * 1, none⟩)) H3_ (by kernel_rfl) (by kernel_rfl) (by kernel_rfl) ((by kernel_rfl : _ = val (bif (1 : Nat).blt n then some (.pointer (some ⟨A, off + 1 * 1, none⟩)) else none) H3_).trans (by rw [show (1 : Nat).blt n = true from (by rw [blt_dec]; simp only [decide_eq_true_eq]; omega)]; rfl)) ?_
  have gH3_A : H3_.get (A) = some ⟨cells, e, ro⟩ := by rw [hH3_, Heap.get_put, if_neg (by omega)]; rw [hH2_, Heap.get_push, if_neg (by omega)]; exact gH1_A
  refine aops_val 38 (.int .u8 b1) H3_ (by kernel_rfl) (by kernel_rfl) (by kernel_rfl) ((by kernel_rfl : _ = val (aload T20 5 (.pointer (some ⟨A, off + 1 * 1, none⟩)) H3_) H3_).trans (val_of ((aload_at gH3_A).trans (aloadC_cellB (n := 1) (by kernel_rfl) (by kernel_rfl) c1)))) ?_
  refine aops_go 1 60 (by kernel_rfl) ?_
  refine aops_see 39 (.int .u32 b1) (see_int (x := IntKind.u32.wrap b1) (by kernel_rfl) (wu32 rfl (by omega) (by omega))) ?_
  refine aops_go 5 60 (by kernel_rfl) ?_
  refine aops_see 44 (.int .u32 (b1 * 1)) (see_int (x := (IntKind.u32.wrap (b1 * 1))) (by kernel_rfl) (wu32 rfl (by omega) (by omega))) ?_
  refine aops_go 1 60 (by kernel_rfl) ?_
  refine aops_see 45 (.int .u32 (b1 * 1)) (see_int (x := (IntKind.u32.wrap (((BitVec.ofInt 32 0 ||| BitVec.ofInt 32 (b1 * 1)).toNat : Nat) : Int))) (by kernel_rfl) ((or_add 0 (b1 * 1) 32 (by omega) (by omega) (by omega) (by omega) (by omega) (by omega) (by omega)).trans (Int.zero_add _))) ?_
  refine aops_go 1 60 (by kernel_rfl) ?_
  obtain ⟨H4_, hH4_⟩ : ∃ x : Heap, x = H3_.put (H1_.n) ⟨[Value.int .i64 x0, .int .u32 (b1 * 1)], 26, false⟩ := ⟨_, rfl⟩
  have nH4_ : H4_.n = H3_.n := by rw [hH4_]; rfl
  refine aops_skip H4_ (by kernel_rfl) (by kernel_rfl) (by kernel_rfl) ((by kernel_rfl : _ = skp (astore T20 22 (.pointer (some ⟨H1_.n, 1, none⟩)) (.int .u32 (b1 * 1)) H3_)).trans (by rw [astore_to gH3_H1__n (by kernel_rfl), ← hH4_]; rfl)) ?_
  refine aops_end (by kernel_rfl) (blk_normal (then_normal ?_))
  refine aw_code f35bccccccacaacc_eq ?_
  refine aw_reg ?_
  refine aops_go 3 60 (by kernel_rfl) ?_
  refine aops_end (by kernel_rfl) (then_normal (hK1_ _ ?_))
  refine aw_loop_k fun K2_ hK2_ => ?_
  refine aw_code f35bccccccacaa_eq ?_
  refine aw_then ?_
  refine aw_code f35bccccccacaaa_eq ?_
  refine aw_then ?_
  refine aw_code f35bccccccacaaaa_eq ?_
  refine aw_reg ?_
  refine aops_go 3 60 (by kernel_rfl) ?_
  refine aops_end (by kernel_rfl) (then_normal ?_)
  refine aw_code f35bccccccacaaac_eq ?_
  refine aw_cond (t := true) (by kernel_rfl) ?_
  refine aw_skip (then_normal ?_)
  refine aw_code f35bccccccacaac_eq ?_
  refine aw_then ?_
  refine aw_code f35bccccccacaaca_eq ?_
  refine aw_block ?_
  refine aw_code f35bccccccacaacaa_eq ?_
  refine aw_draw0w (by kernel_rfl) ?_
  refine aops_go 1 60 (by kernel_rfl) ?_
  have gH4_H1__n : H4_.get (H1_.n) = some ⟨[Value.int .i64 x0, .int .u32 (b1 * 1)], 26, false⟩ := by rw [hH4_]; exact (Heap.get_put _ _ _ _).trans (if_pos rfl)
  refine aops_val 34 (.int .u32 (b1 * 1)) H4_ (by kernel_rfl) (by kernel_rfl) (by kernel_rfl) ((by kernel_rfl : _ = val (aload T20 22 (.pointer (some ⟨H1_.n, 1, none⟩)) H4_) H4_).trans (val_of ((aload_at gH4_H1__n).trans (by kernel_rfl)))) ?_
  refine aops_go 2 60 (by kernel_rfl) ?_
  refine aops_val 37 (.pointer (some ⟨A, off + 2 * 1, none⟩)) H4_ (by kernel_rfl) (by kernel_rfl) (by kernel_rfl) ((by kernel_rfl : _ = val (bif (2 : Nat).blt n then some (.pointer (some ⟨A, off + 2 * 1, none⟩)) else none) H4_).trans (by rw [show (2 : Nat).blt n = true from (by rw [blt_dec]; simp only [decide_eq_true_eq]; omega)]; rfl)) ?_
  have gH4_A : H4_.get (A) = some ⟨cells, e, ro⟩ := by rw [hH4_, Heap.get_put, if_neg (by omega)]; exact gH3_A
  refine aops_val 38 (.int .u8 b2) H4_ (by kernel_rfl) (by kernel_rfl) (by kernel_rfl) ((by kernel_rfl : _ = val (aload T20 5 (.pointer (some ⟨A, off + 2 * 1, none⟩)) H4_) H4_).trans (val_of ((aload_at gH4_A).trans (aloadC_cellB (n := 1) (by kernel_rfl) (by kernel_rfl) c2)))) ?_
  refine aops_go 1 60 (by kernel_rfl) ?_
  refine aops_see 39 (.int .u32 b2) (see_int (x := IntKind.u32.wrap b2) (by kernel_rfl) (wu32 rfl (by omega) (by omega))) ?_
  refine aops_go 5 60 (by kernel_rfl) ?_
  refine aops_see 44 (.int .u32 (b2 * 256)) (see_int (x := (IntKind.u32.wrap (b2 * 256))) (by kernel_rfl) (wu32 rfl (by omega) (by omega))) ?_
  refine aops_go 1 60 (by kernel_rfl) ?_
  refine aops_see 45 (.int .u32 ((b1 * 1) + (b2 * 256))) (see_int (x := (IntKind.u32.wrap (((BitVec.ofInt 32 (b1 * 1) ||| BitVec.ofInt 32 (b2 * 256)).toNat : Nat) : Int))) (by kernel_rfl) (or_add2 (b1 * 1) (b2 * 256) 8 (by omega) (by omega) (by omega) (by omega) (by omega) (by omega) (by omega))) ?_
  refine aops_go 1 60 (by kernel_rfl) ?_
  obtain ⟨H5_, hH5_⟩ : ∃ x : Heap, x = H4_.put (H1_.n) ⟨[Value.int .i64 x0, .int .u32 ((b1 * 1) + (b2 * 256))], 26, false⟩ := ⟨_, rfl⟩
  have nH5_ : H5_.n = H4_.n := by rw [hH5_]; rfl
  refine aops_skip H5_ (by kernel_rfl) (by kernel_rfl) (by kernel_rfl) ((by kernel_rfl : _ = skp (astore T20 22 (.pointer (some ⟨H1_.n, 1, none⟩)) (.int .u32 ((b1 * 1) + (b2 * 256))) H4_)).trans (by rw [astore_to gH4_H1__n (by kernel_rfl), ← hH5_]; rfl)) ?_
  refine aops_end (by kernel_rfl) (blk_normal (then_normal ?_))
  refine aw_code f35bccccccacaacc_eq ?_
  refine aw_reg ?_
  refine aops_go 3 60 (by kernel_rfl) ?_
  refine aops_end (by kernel_rfl) (then_normal (hK2_ _ ?_))
  refine aw_loop_k fun K3_ hK3_ => ?_
  refine aw_code f35bccccccacaa_eq ?_
  refine aw_then ?_
  refine aw_code f35bccccccacaaa_eq ?_
  refine aw_then ?_
  refine aw_code f35bccccccacaaaa_eq ?_
  refine aw_reg ?_
  refine aops_go 3 60 (by kernel_rfl) ?_
  refine aops_end (by kernel_rfl) (then_normal ?_)
  refine aw_code f35bccccccacaaac_eq ?_
  refine aw_cond (t := true) (by kernel_rfl) ?_
  refine aw_skip (then_normal ?_)
  refine aw_code f35bccccccacaac_eq ?_
  refine aw_then ?_
  refine aw_code f35bccccccacaaca_eq ?_
  refine aw_block ?_
  refine aw_code f35bccccccacaacaa_eq ?_
  refine aw_draw0w (by kernel_rfl) ?_
  refine aops_go 1 60 (by kernel_rfl) ?_
  have gH5_H1__n : H5_.get (H1_.n) = some ⟨[Value.int .i64 x0, .int .u32 ((b1 * 1) + (b2 * 256))], 26, false⟩ := by rw [hH5_]; exact (Heap.get_put _ _ _ _).trans (if_pos rfl)
  refine aops_val 34 (.int .u32 ((b1 * 1) + (b2 * 256))) H5_ (by kernel_rfl) (by kernel_rfl) (by kernel_rfl) ((by kernel_rfl : _ = val (aload T20 22 (.pointer (some ⟨H1_.n, 1, none⟩)) H5_) H5_).trans (val_of ((aload_at gH5_H1__n).trans (by kernel_rfl)))) ?_
  refine aops_go 2 60 (by kernel_rfl) ?_
  refine aops_val 37 (.pointer (some ⟨A, off + 3 * 1, none⟩)) H5_ (by kernel_rfl) (by kernel_rfl) (by kernel_rfl) ((by kernel_rfl : _ = val (bif (3 : Nat).blt n then some (.pointer (some ⟨A, off + 3 * 1, none⟩)) else none) H5_).trans (by rw [show (3 : Nat).blt n = true from (by rw [blt_dec]; simp only [decide_eq_true_eq]; omega)]; rfl)) ?_
  have gH5_A : H5_.get (A) = some ⟨cells, e, ro⟩ := by rw [hH5_, Heap.get_put, if_neg (by omega)]; exact gH4_A
  refine aops_val 38 (.int .u8 b3) H5_ (by kernel_rfl) (by kernel_rfl) (by kernel_rfl) ((by kernel_rfl : _ = val (aload T20 5 (.pointer (some ⟨A, off + 3 * 1, none⟩)) H5_) H5_).trans (val_of ((aload_at gH5_A).trans (aloadC_cellB (n := 1) (by kernel_rfl) (by kernel_rfl) c3)))) ?_
  refine aops_go 1 60 (by kernel_rfl) ?_
  refine aops_see 39 (.int .u32 b3) (see_int (x := IntKind.u32.wrap b3) (by kernel_rfl) (wu32 rfl (by omega) (by omega))) ?_
  refine aops_go 5 60 (by kernel_rfl) ?_
  refine aops_see 44 (.int .u32 (b3 * 65536)) (see_int (x := (IntKind.u32.wrap (b3 * 65536))) (by kernel_rfl) (wu32 rfl (by omega) (by omega))) ?_
  refine aops_go 1 60 (by kernel_rfl) ?_
  refine aops_see 45 (.int .u32 (((b1 * 1) + (b2 * 256)) + (b3 * 65536))) (see_int (x := (IntKind.u32.wrap (((BitVec.ofInt 32 ((b1 * 1) + (b2 * 256)) ||| BitVec.ofInt 32 (b3 * 65536)).toNat : Nat) : Int))) (by kernel_rfl) (or_add2 ((b1 * 1) + (b2 * 256)) (b3 * 65536) 16 (by omega) (by omega) (by omega) (by omega) (by omega) (by omega) (by omega))) ?_
  refine aops_go 1 60 (by kernel_rfl) ?_
  obtain ⟨H6_, hH6_⟩ : ∃ x : Heap, x = H5_.put (H1_.n) ⟨[Value.int .i64 x0, .int .u32 (((b1 * 1) + (b2 * 256)) + (b3 * 65536))], 26, false⟩ := ⟨_, rfl⟩
  have nH6_ : H6_.n = H5_.n := by rw [hH6_]; rfl
  refine aops_skip H6_ (by kernel_rfl) (by kernel_rfl) (by kernel_rfl) ((by kernel_rfl : _ = skp (astore T20 22 (.pointer (some ⟨H1_.n, 1, none⟩)) (.int .u32 (((b1 * 1) + (b2 * 256)) + (b3 * 65536))) H5_)).trans (by rw [astore_to gH5_H1__n (by kernel_rfl), ← hH6_]; rfl)) ?_
  refine aops_end (by kernel_rfl) (blk_normal (then_normal ?_))
  refine aw_code f35bccccccacaacc_eq ?_
  refine aw_reg ?_
  refine aops_go 3 60 (by kernel_rfl) ?_
  refine aops_end (by kernel_rfl) (then_normal (hK3_ _ ?_))
  refine aw_loop_k fun K4_ hK4_ => ?_
  refine aw_code f35bccccccacaa_eq ?_
  refine aw_then ?_
  refine aw_code f35bccccccacaaa_eq ?_
  refine aw_then ?_
  refine aw_code f35bccccccacaaaa_eq ?_
  refine aw_reg ?_
  refine aops_go 3 60 (by kernel_rfl) ?_
  refine aops_end (by kernel_rfl) (then_normal ?_)
  refine aw_code f35bccccccacaaac_eq ?_
  refine aw_cond (t := true) (by kernel_rfl) ?_
  refine aw_skip (then_normal ?_)
  refine aw_code f35bccccccacaac_eq ?_
  refine aw_then ?_
  refine aw_code f35bccccccacaaca_eq ?_
  refine aw_block ?_
  refine aw_code f35bccccccacaacaa_eq ?_
  refine aw_draw0w (by kernel_rfl) ?_
  refine aops_go 1 60 (by kernel_rfl) ?_
  have gH6_H1__n : H6_.get (H1_.n) = some ⟨[Value.int .i64 x0, .int .u32 (((b1 * 1) + (b2 * 256)) + (b3 * 65536))], 26, false⟩ := by rw [hH6_]; exact (Heap.get_put _ _ _ _).trans (if_pos rfl)
  refine aops_val 34 (.int .u32 (((b1 * 1) + (b2 * 256)) + (b3 * 65536))) H6_ (by kernel_rfl) (by kernel_rfl) (by kernel_rfl) ((by kernel_rfl : _ = val (aload T20 22 (.pointer (some ⟨H1_.n, 1, none⟩)) H6_) H6_).trans (val_of ((aload_at gH6_H1__n).trans (by kernel_rfl)))) ?_
  refine aops_go 2 60 (by kernel_rfl) ?_
  refine aops_val 37 (.pointer (some ⟨A, off + 4 * 1, none⟩)) H6_ (by kernel_rfl) (by kernel_rfl) (by kernel_rfl) ((by kernel_rfl : _ = val (bif (4 : Nat).blt n then some (.pointer (some ⟨A, off + 4 * 1, none⟩)) else none) H6_).trans (by rw [show (4 : Nat).blt n = true from (by rw [blt_dec]; simp only [decide_eq_true_eq]; omega)]; rfl)) ?_
  have gH6_A : H6_.get (A) = some ⟨cells, e, ro⟩ := by rw [hH6_, Heap.get_put, if_neg (by omega)]; exact gH5_A
  refine aops_val 38 (.int .u8 b4) H6_ (by kernel_rfl) (by kernel_rfl) (by kernel_rfl) ((by kernel_rfl : _ = val (aload T20 5 (.pointer (some ⟨A, off + 4 * 1, none⟩)) H6_) H6_).trans (val_of ((aload_at gH6_A).trans (aloadC_cellB (n := 1) (by kernel_rfl) (by kernel_rfl) c4)))) ?_
  refine aops_go 1 60 (by kernel_rfl) ?_
  refine aops_see 39 (.int .u32 b4) (see_int (x := IntKind.u32.wrap b4) (by kernel_rfl) (wu32 rfl (by omega) (by omega))) ?_
  refine aops_go 5 60 (by kernel_rfl) ?_
  refine aops_see 44 (.int .u32 (b4 * 16777216)) (see_int (x := (IntKind.u32.wrap (b4 * 16777216))) (by kernel_rfl) (wu32 rfl (by omega) (by omega))) ?_
  refine aops_go 1 60 (by kernel_rfl) ?_
  refine aops_see 45 (.int .u32 ((((b1 * 1) + (b2 * 256)) + (b3 * 65536)) + (b4 * 16777216))) (see_int (x := (IntKind.u32.wrap (((BitVec.ofInt 32 (((b1 * 1) + (b2 * 256)) + (b3 * 65536)) ||| BitVec.ofInt 32 (b4 * 16777216)).toNat : Nat) : Int))) (by kernel_rfl) (or_add2 (((b1 * 1) + (b2 * 256)) + (b3 * 65536)) (b4 * 16777216) 24 (by omega) (by omega) (by omega) (by omega) (by omega) (by omega) (by omega))) ?_
  refine aops_go 1 60 (by kernel_rfl) ?_
  obtain ⟨H7_, hH7_⟩ : ∃ x : Heap, x = H6_.put (H1_.n) ⟨[Value.int .i64 x0, .int .u32 ((((b1 * 1) + (b2 * 256)) + (b3 * 65536)) + (b4 * 16777216))], 26, false⟩ := ⟨_, rfl⟩
  have nH7_ : H7_.n = H6_.n := by rw [hH7_]; rfl
  refine aops_skip H7_ (by kernel_rfl) (by kernel_rfl) (by kernel_rfl) ((by kernel_rfl : _ = skp (astore T20 22 (.pointer (some ⟨H1_.n, 1, none⟩)) (.int .u32 ((((b1 * 1) + (b2 * 256)) + (b3 * 65536)) + (b4 * 16777216))) H6_)).trans (by rw [astore_to gH6_H1__n (by kernel_rfl), ← hH7_]; rfl)) ?_
  refine aops_end (by kernel_rfl) (blk_normal (then_normal ?_))
  refine aw_code f35bccccccacaacc_eq ?_
  refine aw_reg ?_
  refine aops_go 3 60 (by kernel_rfl) ?_
  refine aops_end (by kernel_rfl) (then_normal (hK4_ _ ?_))
  refine aw_loop_k fun K5_ hK5_ => ?_
  refine aw_code f35bccccccacaa_eq ?_
  refine aw_then ?_
  refine aw_code f35bccccccacaaa_eq ?_
  refine aw_then ?_
  refine aw_code f35bccccccacaaaa_eq ?_
  refine aw_reg ?_
  refine aops_go 3 60 (by kernel_rfl) ?_
  refine aops_end (by kernel_rfl) (then_normal ?_)
  refine aw_code f35bccccccacaaac_eq ?_
  refine aw_cond (t := false) (by kernel_rfl) ?_
  refine aw_exit (then_exit (then_exit (blk_hit (then_normal ?_))))
  refine aw_code f35bccccccc_eq ?_
  refine aw_then ?_
  refine aw_code f35bccccccca_eq ?_
  refine aw_reg ?_
  have gH7_H1__n : H7_.get (H1_.n) = some ⟨[Value.int .i64 x0, .int .u32 ((((b1 * 1) + (b2 * 256)) + (b3 * 65536)) + (b4 * 16777216))], 26, false⟩ := by rw [hH7_]; exact (Heap.get_put _ _ _ _).trans (if_pos rfl)
  refine aops_val 47 (.agg #[.int .i64 x0, .int .u32 ((((b1 * 1) + (b2 * 256)) + (b3 * 65536)) + (b4 * 16777216))]) H7_ (by kernel_rfl) (by kernel_rfl) (by kernel_rfl) ((by kernel_rfl : _ = val (aload T20 26 (.pointer (some ⟨H1_.n, 0, none⟩)) H7_) H7_).trans (val_of ((aload_at gH7_H1__n).trans (by kernel_rfl)))) ?_
  refine aops_go 1 60 (by kernel_rfl) ?_
  have gH7_H_n : H7_.get (H.n) = some ⟨[Value.int .i64 0, .int .u32 0], 26, false⟩ := by rw [hH7_, Heap.get_put, if_neg (by omega)]; rw [hH6_, Heap.get_put, if_neg (by omega)]; rw [hH5_, Heap.get_put, if_neg (by omega)]; rw [hH4_, Heap.get_put, if_neg (by omega)]; rw [hH3_, Heap.get_put, if_neg (by omega)]; rw [hH2_, Heap.get_push, if_neg (by omega)]; rw [hH1_]; exact (Heap.get_push _ _ _).trans (if_pos rfl)
  obtain ⟨H8_, hH8_⟩ : ∃ x : Heap, x = H7_.put (H.n) ⟨[Value.int .i64 x0, .int .u32 ((((b1 * 1) + (b2 * 256)) + (b3 * 65536)) + (b4 * 16777216))], 26, false⟩ := ⟨_, rfl⟩
  have nH8_ : H8_.n = H7_.n := by rw [hH8_]; rfl
  refine aops_skip H8_ (by kernel_rfl) (by kernel_rfl) (by kernel_rfl) ((by kernel_rfl : _ = skp (astore T20 26 (.pointer (some ⟨H.n, 0, none⟩)) (.agg #[.int .i64 x0, .int .u32 ((((b1 * 1) + (b2 * 256)) + (b3 * 65536)) + (b4 * 16777216))]) H7_)).trans (by rw [astore_to gH7_H_n (by kernel_rfl), ← hH8_]; rfl)) ?_
  refine aops_go 2 60 (by kernel_rfl) ?_
  refine aops_end (by kernel_rfl) (then_normal ?_)
  have gH8_H_n : H8_.get (H.n) = some ⟨[Value.int .i64 x0, .int .u32 ((((b1 * 1) + (b2 * 256)) + (b3 * 65536)) + (b4 * 16777216))], 26, false⟩ := by rw [hH8_]; exact (Heap.get_put _ _ _ _).trans (if_pos rfl)
  refine aw_ret (bodyQ_ret_to (.tuple #[.agg #[.int .i64 x0, .int .u32 ((((b1 * 1) + (b2 * 256)) + (b3 * 65536)) + (b4 * 16777216))], .int .i64 5, .bool false]) H8_ (ares_cell2 2 26 3 4 (.pointer (some ⟨H.n, 0, none⟩)) H8_ (by kernel_rfl) (by kernel_rfl) (by kernel_rfl) (by kernel_rfl) (by kernel_rfl) ((aload_at gH8_H_n).trans (by kernel_rfl))) (by kernel_rfl) ?_)
  exact ⟨by rw [show ((((b1 * 1) + (b2 * 256)) + (b3 * 65536)) + (b4 * 16777216)) = num4 b1 b2 b3 b4 from by unfold num4; omega]; rfl, ⟨by omega, fun b hb => by rw [hH8_, Heap.get_put, if_neg (by omega), hH7_, Heap.get_put, if_neg (by omega), hH6_, Heap.get_put, if_neg (by omega), hH5_, Heap.get_put, if_neg (by omega), hH4_, Heap.get_put, if_neg (by omega), hH3_, Heap.get_put, if_neg (by omega), hH2_, Heap.get_push, if_neg (by omega), hH1_, Heap.get_push, if_neg (by omega)]⟩⟩
theorem rdec_2s {H : Heap} {A off n cap : Nat} {cells : List Value} {e : TypeId} {ro : Bool} {x0 : Int} (gA : H.get A = some ⟨cells, e, ro⟩) (hA : A < H.n) (hn : 1 ≤ n) (hn2 : n < 2) (c0 : cells[off + 0 * 1]? = some (.int .u8 x0)) (l0 : 0 ≤ x0) (m0 : x0 < 256) (hz : sizeV x0 = 2) : ACall Tryd.prog T20 35 #[.slice (some ⟨A, off, none⟩) n cap] H fun r H' => r = rdecR (0, 0, 0, 10) ∧ Up H.n H H' := by
  refine acall_of' 49 (initTm 0 #[.slice (some ⟨A, off, none⟩) n cap]) rfl f35_fn f35_body rfl rfl ?_
  refine aw_code f35b_eq ?_
  refine aw_then ?_
  refine aw_code f35ba_eq ?_
  refine aw_reg ?_
  obtain ⟨H1_, hH1_⟩ : ∃ x : Heap, x = H.push ⟨[Value.int .i64 0, .int .u32 0], 26, false⟩ := ⟨_, rfl⟩
  have nH1_ : H1_.n = H.n + 1 := by rw [hH1_]; rfl
  refine aops_val 2 (.pointer (some ⟨H.n, 0, none⟩)) H1_ (by kernel_rfl) (by kernel_rfl) (by kernel_rfl) ((by kernel_rfl : _ = some (Res.val (.pointer (some ⟨H.n, 0, none⟩)), H.push ⟨[Value.int .i64 0, .int .u32 0], 26, false⟩)).trans (by rw [← hH1_])) ?_
  refine aops_go 2 60 (by kernel_rfl) ?_
  refine aops_end (by kernel_rfl) (then_normal ?_)
  refine aw_code f35bc_eq ?_
  refine aw_then ?_
  refine aw_code f35bca_eq ?_
  refine aw_then ?_
  refine aw_code f35bcaa_eq ?_
  refine aw_reg ?_
  refine aops_go 3 60 (by kernel_rfl) ?_
  refine aops_end (by kernel_rfl) (then_normal ?_)
  refine aw_code f35bcac_eq ?_
  refine aw_cond (t := false) (see_bool (by kernel_rfl) ((by simp; omega) : ((((n : Nat) : Int) == 0)) = false)) ?_
  refine aw_skip (then_normal ?_)
  refine aw_code f35bcc_eq ?_
  refine aw_then ?_
  refine aw_code f35bcca_eq ?_
  refine aw_reg ?_
  refine aops_go 1 60 (by kernel_rfl) ?_
  refine aops_val 13 (.pointer (some ⟨A, off + 0 * 1, none⟩)) H1_ (by kernel_rfl) (by kernel_rfl) (by kernel_rfl) ((by kernel_rfl : _ = val (bif (0 : Nat).blt n then some (.pointer (some ⟨A, off + 0 * 1, none⟩)) else none) H1_).trans (by rw [show (0 : Nat).blt n = true from (by rw [blt_dec]; simp only [decide_eq_true_eq]; omega)]; rfl)) ?_
  have gH1_A : H1_.get (A) = some ⟨cells, e, ro⟩ := by rw [hH1_, Heap.get_push, if_neg (by omega)]; exact gA
  refine aops_val 14 (.int .u8 x0) H1_ (by kernel_rfl) (by kernel_rfl) (by kernel_rfl) ((by kernel_rfl : _ = val (aload T20 5 (.pointer (some ⟨A, off + 0 * 1, none⟩)) H1_) H1_).trans (val_of ((aload_at gH1_A).trans (aloadC_cellB (n := 1) (by kernel_rfl) (by kernel_rfl) c0)))) ?_
  refine aops_go 1 60 (by kernel_rfl) ?_
  refine aops_see 15 (.int .i64 x0) (see_int (x := IntKind.i64.wrap x0) (by kernel_rfl) (w64 rfl (by omega) (by omega))) ?_
  refine aops_go 1 60 (by kernel_rfl) ?_
  obtain ⟨H2_, hH2_⟩ : ∃ x : Heap, x = H1_.push ⟨[Value.int .i64 0, .int .u32 0], 26, false⟩ := ⟨_, rfl⟩
  have nH2_ : H2_.n = H1_.n + 1 := by rw [hH2_]; rfl
  refine aops_val 5 (.pointer (some ⟨H1_.n, 0, none⟩)) H2_ (by kernel_rfl) (by kernel_rfl) (by kernel_rfl) ((by kernel_rfl : _ = some (Res.val (.pointer (some ⟨H1_.n, 0, none⟩)), H1_.push ⟨[Value.int .i64 0, .int .u32 0], 26, false⟩)).trans (by rw [← hH2_])) ?_
  have gH2_H1__n : H2_.get (H1_.n) = some ⟨[Value.int .i64 0, .int .u32 0], 26, false⟩ := by rw [hH2_]; exact (Heap.get_push _ _ _).trans (if_pos rfl)
  obtain ⟨H3_, hH3_⟩ : ∃ x : Heap, x = H2_.put (H1_.n) ⟨[Value.int .i64 x0, .int .u32 0], 26, false⟩ := ⟨_, rfl⟩
  have nH3_ : H3_.n = H2_.n := by rw [hH3_]; rfl
  refine aops_skip H3_ (by kernel_rfl) (by kernel_rfl) (by kernel_rfl) ((by kernel_rfl : _ = skp (astore T20 26 (.pointer (some ⟨H1_.n, 0, none⟩)) (.agg #[.int .i64 x0, .int .u32 0]) H2_)).trans (by rw [astore_to gH2_H1__n (by kernel_rfl), ← hH3_]; rfl)) ?_
  refine aops_end (by kernel_rfl) (then_normal ?_)
  refine aw_code f35bccc_eq ?_
  refine aw_then ?_
  refine aw_code f35bccca_eq ?_
  refine aw_reg ?_
  refine aops_go 1 60 (by kernel_rfl) ?_
  have gH3_H1__n : H3_.get (H1_.n) = some ⟨[Value.int .i64 x0, .int .u32 0], 26, false⟩ := by rw [hH3_]; exact (Heap.get_put _ _ _ _).trans (if_pos rfl)
  refine aops_val 18 (.int .i64 x0) H3_ (by kernel_rfl) (by kernel_rfl) (by kernel_rfl) ((by kernel_rfl : _ = val (aload T20 3 (.pointer (some ⟨H1_.n, 0, none⟩)) H3_) H3_).trans (val_of ((aload_at gH3_H1__n).trans (by kernel_rfl)))) ?_
  refine aops_ask 19 (.int .i64 2) 29 #[.int .i64 x0] (by kernel_rfl) (by kernel_rfl) (by kernel_rfl) (by kernel_rfl) (show some (Value.int .i64 (sizeV x0)) = _ by rw [hz]) ?_
  refine aops_go 1 60 (by kernel_rfl) ?_
  refine aops_end (by kernel_rfl) (then_normal ?_)
  refine aw_code f35bcccc_eq ?_
  refine aw_then ?_
  refine aw_code f35bcccca_eq ?_
  refine aw_then ?_
  refine aw_code f35bccccaa_eq ?_
  refine aw_reg ?_
  refine aops_go 2 60 (by kernel_rfl) ?_
  refine aops_end (by kernel_rfl) (then_normal ?_)
  refine aw_code f35bccccac_eq ?_
  refine aw_cond (t := false) (by kernel_rfl) ?_
  refine aw_skip (then_normal ?_)
  refine aw_code f35bccccc_eq ?_
  refine aw_then ?_
  refine aw_code f35bccccca_eq ?_
  refine aw_then ?_
  refine aw_code f35bcccccaa_eq ?_
  refine aw_reg ?_
  refine aops_go 4 60 (by kernel_rfl) ?_
  refine aops_end (by kernel_rfl) (then_normal ?_)
  refine aw_code f35bcccccac_eq ?_
  refine aw_cond (t := true) (see_bool (by kernel_rfl) ((by simp; omega) : ((decide (((n : Nat) : Int) < 2))) = true)) ?_
  refine aw_code f35bcccccaca_eq ?_
  refine aw_then ?_
  refine aw_code f35bcccccacaa_eq ?_
  refine aw_reg ?_
  refine aops_go 1 60 (by kernel_rfl) ?_
  have gH3_H_n : H3_.get (H.n) = some ⟨[Value.int .i64 0, .int .u32 0], 26, false⟩ := by rw [hH3_, Heap.get_put, if_neg (by omega)]; rw [hH2_, Heap.get_push, if_neg (by omega)]; rw [hH1_]; exact (Heap.get_push _ _ _).trans (if_pos rfl)
  obtain ⟨H4_, hH4_⟩ : ∃ x : Heap, x = H3_.put (H.n) ⟨[Value.int .i64 0, .int .u32 0], 26, false⟩ := ⟨_, rfl⟩
  have nH4_ : H4_.n = H3_.n := by rw [hH4_]; rfl
  refine aops_skip H4_ (by kernel_rfl) (by kernel_rfl) (by kernel_rfl) ((by kernel_rfl : _ = skp (astore T20 26 (.pointer (some ⟨H.n, 0, none⟩)) (.agg #[.int .i64 0, .int .u32 0]) H3_)).trans (by rw [astore_to gH3_H_n (by kernel_rfl), ← hH4_]; rfl)) ?_
  refine aops_go 2 60 (by kernel_rfl) ?_
  refine aops_end (by kernel_rfl) (then_normal ?_)
  have gH4_H_n : H4_.get (H.n) = some ⟨[Value.int .i64 0, .int .u32 0], 26, false⟩ := by rw [hH4_]; exact (Heap.get_put _ _ _ _).trans (if_pos rfl)
  refine aw_ret (then_ret (bodyQ_ret_to (.tuple #[.agg #[.int .i64 0, .int .u32 0], .int .i64 0, .bool true]) H4_ (ares_cell2 2 26 3 4 (.pointer (some ⟨H.n, 0, none⟩)) H4_ (by kernel_rfl) (by kernel_rfl) (by kernel_rfl) (by kernel_rfl) (by kernel_rfl) ((aload_at gH4_H_n).trans (by kernel_rfl))) (by kernel_rfl) ?_))
  exact ⟨rfl, ⟨by omega, fun b hb => by rw [hH4_, Heap.get_put, if_neg (by omega), hH3_, Heap.get_put, if_neg (by omega), hH2_, Heap.get_push, if_neg (by omega), hH1_, Heap.get_push, if_neg (by omega)]⟩⟩
theorem rdec_5s {H : Heap} {A off n cap : Nat} {cells : List Value} {e : TypeId} {ro : Bool} {x0 : Int} (gA : H.get A = some ⟨cells, e, ro⟩) (hA : A < H.n) (hn : 1 ≤ n) (hn2 : n < 5) (c0 : cells[off + 0 * 1]? = some (.int .u8 x0)) (l0 : 0 ≤ x0) (m0 : x0 < 256) (hz : sizeV x0 = 5) : ACall Tryd.prog T20 35 #[.slice (some ⟨A, off, none⟩) n cap] H fun r H' => r = rdecR (0, 0, 0, 10) ∧ Up H.n H H' := by
  refine acall_of' 49 (initTm 0 #[.slice (some ⟨A, off, none⟩) n cap]) rfl f35_fn f35_body rfl rfl ?_
  refine aw_code f35b_eq ?_
  refine aw_then ?_
  refine aw_code f35ba_eq ?_
  refine aw_reg ?_
  obtain ⟨H1_, hH1_⟩ : ∃ x : Heap, x = H.push ⟨[Value.int .i64 0, .int .u32 0], 26, false⟩ := ⟨_, rfl⟩
  have nH1_ : H1_.n = H.n + 1 := by rw [hH1_]; rfl
  refine aops_val 2 (.pointer (some ⟨H.n, 0, none⟩)) H1_ (by kernel_rfl) (by kernel_rfl) (by kernel_rfl) ((by kernel_rfl : _ = some (Res.val (.pointer (some ⟨H.n, 0, none⟩)), H.push ⟨[Value.int .i64 0, .int .u32 0], 26, false⟩)).trans (by rw [← hH1_])) ?_
  refine aops_go 2 60 (by kernel_rfl) ?_
  refine aops_end (by kernel_rfl) (then_normal ?_)
  refine aw_code f35bc_eq ?_
  refine aw_then ?_
  refine aw_code f35bca_eq ?_
  refine aw_then ?_
  refine aw_code f35bcaa_eq ?_
  refine aw_reg ?_
  refine aops_go 3 60 (by kernel_rfl) ?_
  refine aops_end (by kernel_rfl) (then_normal ?_)
  refine aw_code f35bcac_eq ?_
  refine aw_cond (t := false) (see_bool (by kernel_rfl) ((by simp; omega) : ((((n : Nat) : Int) == 0)) = false)) ?_
  refine aw_skip (then_normal ?_)
  refine aw_code f35bcc_eq ?_
  refine aw_then ?_
  refine aw_code f35bcca_eq ?_
  refine aw_reg ?_
  refine aops_go 1 60 (by kernel_rfl) ?_
  refine aops_val 13 (.pointer (some ⟨A, off + 0 * 1, none⟩)) H1_ (by kernel_rfl) (by kernel_rfl) (by kernel_rfl) ((by kernel_rfl : _ = val (bif (0 : Nat).blt n then some (.pointer (some ⟨A, off + 0 * 1, none⟩)) else none) H1_).trans (by rw [show (0 : Nat).blt n = true from (by rw [blt_dec]; simp only [decide_eq_true_eq]; omega)]; rfl)) ?_
  have gH1_A : H1_.get (A) = some ⟨cells, e, ro⟩ := by rw [hH1_, Heap.get_push, if_neg (by omega)]; exact gA
  refine aops_val 14 (.int .u8 x0) H1_ (by kernel_rfl) (by kernel_rfl) (by kernel_rfl) ((by kernel_rfl : _ = val (aload T20 5 (.pointer (some ⟨A, off + 0 * 1, none⟩)) H1_) H1_).trans (val_of ((aload_at gH1_A).trans (aloadC_cellB (n := 1) (by kernel_rfl) (by kernel_rfl) c0)))) ?_
  refine aops_go 1 60 (by kernel_rfl) ?_
  refine aops_see 15 (.int .i64 x0) (see_int (x := IntKind.i64.wrap x0) (by kernel_rfl) (w64 rfl (by omega) (by omega))) ?_
  refine aops_go 1 60 (by kernel_rfl) ?_
  obtain ⟨H2_, hH2_⟩ : ∃ x : Heap, x = H1_.push ⟨[Value.int .i64 0, .int .u32 0], 26, false⟩ := ⟨_, rfl⟩
  have nH2_ : H2_.n = H1_.n + 1 := by rw [hH2_]; rfl
  refine aops_val 5 (.pointer (some ⟨H1_.n, 0, none⟩)) H2_ (by kernel_rfl) (by kernel_rfl) (by kernel_rfl) ((by kernel_rfl : _ = some (Res.val (.pointer (some ⟨H1_.n, 0, none⟩)), H1_.push ⟨[Value.int .i64 0, .int .u32 0], 26, false⟩)).trans (by rw [← hH2_])) ?_
  have gH2_H1__n : H2_.get (H1_.n) = some ⟨[Value.int .i64 0, .int .u32 0], 26, false⟩ := by rw [hH2_]; exact (Heap.get_push _ _ _).trans (if_pos rfl)
  obtain ⟨H3_, hH3_⟩ : ∃ x : Heap, x = H2_.put (H1_.n) ⟨[Value.int .i64 x0, .int .u32 0], 26, false⟩ := ⟨_, rfl⟩
  have nH3_ : H3_.n = H2_.n := by rw [hH3_]; rfl
  refine aops_skip H3_ (by kernel_rfl) (by kernel_rfl) (by kernel_rfl) ((by kernel_rfl : _ = skp (astore T20 26 (.pointer (some ⟨H1_.n, 0, none⟩)) (.agg #[.int .i64 x0, .int .u32 0]) H2_)).trans (by rw [astore_to gH2_H1__n (by kernel_rfl), ← hH3_]; rfl)) ?_
  refine aops_end (by kernel_rfl) (then_normal ?_)
  refine aw_code f35bccc_eq ?_
  refine aw_then ?_
  refine aw_code f35bccca_eq ?_
  refine aw_reg ?_
  refine aops_go 1 60 (by kernel_rfl) ?_
  have gH3_H1__n : H3_.get (H1_.n) = some ⟨[Value.int .i64 x0, .int .u32 0], 26, false⟩ := by rw [hH3_]; exact (Heap.get_put _ _ _ _).trans (if_pos rfl)
  refine aops_val 18 (.int .i64 x0) H3_ (by kernel_rfl) (by kernel_rfl) (by kernel_rfl) ((by kernel_rfl : _ = val (aload T20 3 (.pointer (some ⟨H1_.n, 0, none⟩)) H3_) H3_).trans (val_of ((aload_at gH3_H1__n).trans (by kernel_rfl)))) ?_
  refine aops_ask 19 (.int .i64 5) 29 #[.int .i64 x0] (by kernel_rfl) (by kernel_rfl) (by kernel_rfl) (by kernel_rfl) (show some (Value.int .i64 (sizeV x0)) = _ by rw [hz]) ?_
  refine aops_go 1 60 (by kernel_rfl) ?_
  refine aops_end (by kernel_rfl) (then_normal ?_)
  refine aw_code f35bcccc_eq ?_
  refine aw_then ?_
  refine aw_code f35bcccca_eq ?_
  refine aw_then ?_
  refine aw_code f35bccccaa_eq ?_
  refine aw_reg ?_
  refine aops_go 2 60 (by kernel_rfl) ?_
  refine aops_end (by kernel_rfl) (then_normal ?_)
  refine aw_code f35bccccac_eq ?_
  refine aw_cond (t := false) (by kernel_rfl) ?_
  refine aw_skip (then_normal ?_)
  refine aw_code f35bccccc_eq ?_
  refine aw_then ?_
  refine aw_code f35bccccca_eq ?_
  refine aw_then ?_
  refine aw_code f35bcccccaa_eq ?_
  refine aw_reg ?_
  refine aops_go 4 60 (by kernel_rfl) ?_
  refine aops_end (by kernel_rfl) (then_normal ?_)
  refine aw_code f35bcccccac_eq ?_
  refine aw_cond (t := true) (see_bool (by kernel_rfl) ((by simp; omega) : ((decide (((n : Nat) : Int) < 5))) = true)) ?_
  refine aw_code f35bcccccaca_eq ?_
  refine aw_then ?_
  refine aw_code f35bcccccacaa_eq ?_
  refine aw_reg ?_
  refine aops_go 1 60 (by kernel_rfl) ?_
  have gH3_H_n : H3_.get (H.n) = some ⟨[Value.int .i64 0, .int .u32 0], 26, false⟩ := by rw [hH3_, Heap.get_put, if_neg (by omega)]; rw [hH2_, Heap.get_push, if_neg (by omega)]; rw [hH1_]; exact (Heap.get_push _ _ _).trans (if_pos rfl)
  obtain ⟨H4_, hH4_⟩ : ∃ x : Heap, x = H3_.put (H.n) ⟨[Value.int .i64 0, .int .u32 0], 26, false⟩ := ⟨_, rfl⟩
  have nH4_ : H4_.n = H3_.n := by rw [hH4_]; rfl
  refine aops_skip H4_ (by kernel_rfl) (by kernel_rfl) (by kernel_rfl) ((by kernel_rfl : _ = skp (astore T20 26 (.pointer (some ⟨H.n, 0, none⟩)) (.agg #[.int .i64 0, .int .u32 0]) H3_)).trans (by rw [astore_to gH3_H_n (by kernel_rfl), ← hH4_]; rfl)) ?_
  refine aops_go 2 60 (by kernel_rfl) ?_
  refine aops_end (by kernel_rfl) (then_normal ?_)
  have gH4_H_n : H4_.get (H.n) = some ⟨[Value.int .i64 0, .int .u32 0], 26, false⟩ := by rw [hH4_]; exact (Heap.get_put _ _ _ _).trans (if_pos rfl)
  refine aw_ret (then_ret (bodyQ_ret_to (.tuple #[.agg #[.int .i64 0, .int .u32 0], .int .i64 0, .bool true]) H4_ (ares_cell2 2 26 3 4 (.pointer (some ⟨H.n, 0, none⟩)) H4_ (by kernel_rfl) (by kernel_rfl) (by kernel_rfl) (by kernel_rfl) (by kernel_rfl) ((aload_at gH4_H_n).trans (by kernel_rfl))) (by kernel_rfl) ?_))
  exact ⟨rfl, ⟨by omega, fun b hb => by rw [hH4_, Heap.get_put, if_neg (by omega), hH3_, Heap.get_put, if_neg (by omega), hH2_, Heap.get_push, if_neg (by omega), hH1_, Heap.get_push, if_neg (by omega)]⟩⟩
theorem dec_any {H : Heap} {v : Value} {l : List Int} (h : Byts H v l) : ACall Tryd.prog T20 23 #[v] H fun r H' => r = decR (readL l) ∧ Up H.n H H' := by
  rcases h.at_ with ⟨cap, rfl, rfl⟩ | ⟨A, off, cap, cells, e, ro, rfl, gA, hA, hb⟩
  · exact dec_nil
  · cases l with
    | nil => exact dec_nil
    | cons x0 r =>
      obtain ⟨c0, l0, m0⟩ := hb 0 (by simp)
      simp only [List.getElem_cons_zero] at c0 l0 m0
      have hn1 : 1 ≤ (x0 :: r).length := by simp
      have hlen : (x0 :: r).length = r.length + 1 := rfl
      rcases sizeV_in x0 with hz | hz | hz | hz
      · have e : readL (x0 :: r) = (0, 0, 0, 12) := by simp [readL, hz]
        rw [e]; exact dec_0 gA hA hn1 c0 l0 m0 hz
      · have e : readL (x0 :: r) = (x0, 0, 1, 0) := by
          have : ¬ ((1 : Int) > ((r.length + 1 : Nat) : Int)) := by omega
          simp only [readL, hz, decide_eq_false this]; rfl
        rw [e]; exact dec_1 gA hA hn1 c0 l0 m0 hz
      · rcases r with _ | ⟨b1, r⟩
        · have e : readL [x0] = (0, 0, 0, 10) := by simp [readL, hz]
          rw [e]; exact dec_2s gA hA hn1 (by simp) c0 l0 m0 hz
        · obtain ⟨c1, l1, m1⟩ := hb 1 (by simp)
          simp only [List.getElem_cons_zero, List.getElem_cons_succ] at c1 l1 m1
          have hlen2 : (x0 :: b1 :: r).length = r.length + 2 := rfl
          have e : readL (x0 :: b1 :: r) = (x0, b1, 2, 0) := by
            have : ¬ ((2 : Int) > (((b1 :: r).length + 1 : Nat) : Int)) := by simp only [List.length_cons]; omega
            simp only [readL, hz, decide_eq_false this]; rfl
          rw [e]; exact dec_2 gA hA (by omega) c0 l0 m0 c1 l1 m1 hz
      · rcases Nat.lt_or_ge (x0 :: r).length 5 with h5 | h5
        · have e : readL (x0 :: r) = (0, 0, 0, 10) := by
            have : ((5 : Int) > ((r.length + 1 : Nat) : Int)) := by omega
            simp only [readL, hz, decide_eq_true this]; rfl
          rw [e]; exact dec_5s gA hA hn1 h5 c0 l0 m0 hz
        · rcases r with _ | ⟨b1, _ | ⟨b2, _ | ⟨b3, _ | ⟨b4, r⟩⟩⟩⟩
          · simp at h5
          · simp at h5
          · simp at h5
          · simp at h5
          obtain ⟨c1, l1, m1⟩ := hb 1 (by simp)
          obtain ⟨c2, l2, m2⟩ := hb 2 (by simp)
          obtain ⟨c3, l3, m3⟩ := hb 3 (by simp)
          obtain ⟨c4, l4, m4⟩ := hb 4 (by simp)
          simp only [List.getElem_cons_zero, List.getElem_cons_succ] at c1 l1 m1 c2 l2 m2 c3 l3 m3 c4 l4 m4
          have e : readL (x0 :: b1 :: b2 :: b3 :: b4 :: r) = (x0, num4 b1 b2 b3 b4, 5, 0) := by
            have : ¬ ((5 : Int) > (((b1 :: b2 :: b3 :: b4 :: r).length + 1 : Nat) : Int)) := by simp only [List.length_cons]; omega
            simp only [readL, hz, decide_eq_false this]; rfl
          rw [e]; exact dec_5 gA hA h5 c0 l0 m0 c1 l1 m1 c2 l2 m2 c3 l3 m3 c4 l4 m4 hz
theorem rdec_any {H : Heap} {v : Value} {l : List Int} (h : Byts H v l) : ACall Tryd.prog T20 35 #[v] H fun r H' => r = rdecR (readL l) ∧ Up H.n H H' := by
  rcases h.at_ with ⟨cap, rfl, rfl⟩ | ⟨A, off, cap, cells, e, ro, rfl, gA, hA, hb⟩
  · exact rdec_nil
  · cases l with
    | nil => exact rdec_nil
    | cons x0 r =>
      obtain ⟨c0, l0, m0⟩ := hb 0 (by simp)
      simp only [List.getElem_cons_zero] at c0 l0 m0
      have hn1 : 1 ≤ (x0 :: r).length := by simp
      have hlen : (x0 :: r).length = r.length + 1 := rfl
      rcases sizeV_in x0 with hz | hz | hz | hz
      · have e : readL (x0 :: r) = (0, 0, 0, 12) := by simp [readL, hz]
        rw [e]; exact rdec_0 gA hA hn1 c0 l0 m0 hz
      · have e : readL (x0 :: r) = (x0, 0, 1, 0) := by
          have : ¬ ((1 : Int) > ((r.length + 1 : Nat) : Int)) := by omega
          simp only [readL, hz, decide_eq_false this]; rfl
        rw [e]; exact rdec_1 gA hA hn1 c0 l0 m0 hz
      · rcases r with _ | ⟨b1, r⟩
        · have e : readL [x0] = (0, 0, 0, 10) := by simp [readL, hz]
          rw [e]; exact rdec_2s gA hA hn1 (by simp) c0 l0 m0 hz
        · obtain ⟨c1, l1, m1⟩ := hb 1 (by simp)
          simp only [List.getElem_cons_zero, List.getElem_cons_succ] at c1 l1 m1
          have hlen2 : (x0 :: b1 :: r).length = r.length + 2 := rfl
          have e : readL (x0 :: b1 :: r) = (x0, b1, 2, 0) := by
            have : ¬ ((2 : Int) > (((b1 :: r).length + 1 : Nat) : Int)) := by simp only [List.length_cons]; omega
            simp only [readL, hz, decide_eq_false this]; rfl
          rw [e]; exact rdec_2 gA hA (by omega) c0 l0 m0 c1 l1 m1 hz
      · rcases Nat.lt_or_ge (x0 :: r).length 5 with h5 | h5
        · have e : readL (x0 :: r) = (0, 0, 0, 10) := by
            have : ((5 : Int) > ((r.length + 1 : Nat) : Int)) := by omega
            simp only [readL, hz, decide_eq_true this]; rfl
          rw [e]; exact rdec_5s gA hA hn1 h5 c0 l0 m0 hz
        · rcases r with _ | ⟨b1, _ | ⟨b2, _ | ⟨b3, _ | ⟨b4, r⟩⟩⟩⟩
          · simp at h5
          · simp at h5
          · simp at h5
          · simp at h5
          obtain ⟨c1, l1, m1⟩ := hb 1 (by simp)
          obtain ⟨c2, l2, m2⟩ := hb 2 (by simp)
          obtain ⟨c3, l3, m3⟩ := hb 3 (by simp)
          obtain ⟨c4, l4, m4⟩ := hb 4 (by simp)
          simp only [List.getElem_cons_zero, List.getElem_cons_succ] at c1 l1 m1 c2 l2 m2 c3 l3 m3 c4 l4 m4
          have e : readL (x0 :: b1 :: b2 :: b3 :: b4 :: r) = (x0, num4 b1 b2 b3 b4, 5, 0) := by
            have : ¬ ((5 : Int) > (((b1 :: b2 :: b3 :: b4 :: r).length + 1 : Nat) : Int)) := by simp only [List.length_cons]; omega
            simp only [readL, hz, decide_eq_false this]; rfl
          rw [e]; exact rdec_5 gA hA h5 c0 l0 m0 c1 l1 m1 c2 l2 m2 c3 l3 m3 c4 l4 m4 hz
theorem readL_in (l : List Int) : (readL l).2.2.1 = 0 ∧ (readL l).2.2.2 = 10 ∨ (readL l).2.2.1 = 0 ∧ (readL l).2.2.2 = 12 ∨ (0 < (readL l).2.2.1 ∧ (readL l).2.2.1 ≤ l.length ∧ (readL l).2.2.2 = 0) := by
  cases l with
  | nil => exact .inl ⟨rfl, rfl⟩
  | cons x r =>
    simp only [readL]
    by_cases h0 : sizeV x = 0
    · simp [h0]
    · by_cases h1 : sizeV x > ((r.length + 1 : Nat) : Int)
      · have h0' : (sizeV x == 0) = false := by simpa using h0
        rw [h0', decide_eq_true h1]; exact .inl ⟨rfl, rfl⟩
      · have h0' : (sizeV x == 0) = false := by simpa using h0
        rw [h0', decide_eq_false h1]
        refine .inr (.inr ⟨?_, ?_, rfl⟩)
        · show 0 < sizeV x
          rcases sizeV_in x with e | e | e | e <;> omega
        · show sizeV x ≤ ((x :: r).length : Int)
          simp only [List.length_cons]; omega
theorem Byts.keep {H H' : Heap} {v : Value} {l : List Int} (h : Byts H v l) (hn : H.n ≤ H'.n) (hg : ∀ b, b < H.n → H'.get b = H.get b) : Byts H' v l := by
  rcases h.at_ with h | ⟨A, off, cap, cells, e, ro, h1, gA, hA, hb⟩
  · exact ⟨.inl h⟩
  · exact ⟨.inr ⟨A, off, cap, cells, e, ro, h1, by rw [hg A hA]; exact gA, by omega, hb⟩⟩
theorem dec_to {H : Heap} {v : Value} {l : List Int} {a N s e : Int} (h : Byts H v l) (hd : readL l = (a, N, s, e)) : ACall Tryd.prog T20 23 #[v] H fun r H' => r = .tuple #[.agg #[.int .i64 a, .int .u32 N], .int .i64 s, .int .i64 e] ∧ Up H.n H H' :=
  (dec_any h).mono fun r H' ⟨h1, h2⟩ => ⟨by rw [h1, hd]; rfl, h2⟩
theorem rdec_to {H : Heap} {v : Value} {l : List Int} {a N s e : Int} {b : Bool} (h : Byts H v l) (hd : readL l = (a, N, s, e)) (hb : (e == 10) = b) : ACall Tryd.prog T20 35 #[v] H fun r H' => r = .tuple #[.agg #[.int .i64 a, .int .u32 N], .int .i64 s, .bool b] ∧ Up H.n H H' :=
  (rdec_any h).mono fun r H' ⟨h1, h2⟩ => ⟨by rw [h1, hd, ← hb]; rfl, h2⟩
theorem ha_sl {P : Program} {T : Tab} {tm : Tr Value} {o : Oper} {H0 H H' : Heap} {t : TypeId} {x : Operand} {lo hi mx : Option Operand} {u v : Value} {l h m : Option Value} (ho : o.op = .slice t x lo hi mx) (hx : aeval tm x = some u) (h1 : aevalo tm lo = some l) (h2 : aevalo tm hi = some h) (h3 : aevalo tm mx = some m) (hH : H0 = H) (h4 : aslice T t u l h m = some v) (hH' : H = H') : aop P T tm o H0 = some (.val v, H') := by
  subst hH hH'
  unfold aop
  simp only [ho, hx, h1, h2, h3, h4, orVal, val]
end Gc
end Go.Proofs.YtpfmmckbfejfnaaDoor
