/- Chapter 3: bytes read. -/
import Derived.Test.YtndjckfnggnddaaDoorGt
import Derived.Laws.BitsLemmas
namespace Go.Proofs.YtndjckfnggnddaaDoor
open Go Go.Ev Go.RowKit
set_option linter.unusedVariables false
set_option linter.unusedSimpArgs false
set_option maxRecDepth 100000
namespace Hc
theorem ares_cell1 {T : Tab} {tm : Tr Value} {H : Heap} {rs : Array ResultVar} (t : Nat) (ty : TypeId) (a : Nat) (p : Value) (H0 : Heap) {v x : Value} (hrs : rs.toList = [.cell t ty, .tmp a]) (hp : (tm.get t).getD undef = p) (ha : (tm.get a).getD undef = x) (hH : H = H0) (hl : aload T ty p H0 = some v) : aresults T tm H rs = some (.tuple #[v, x]) := by
  subst hH
  unfold aresults
  rw [hrs]
  simp only [results1, hp, ha, hl]
/-- A slice of bytes that is read. -/
structure Byts (H : Heap) (v : Value) (l : List Int) : Prop where
  at_ : (∃ cap, v = .slice none 0 cap ∧ l = []) ∨ ∃ A off cap cells e ro, v = .slice (some ⟨A, off, none⟩) l.length cap ∧ H.get A = some ⟨cells, e, ro⟩ ∧ A < H.n ∧ ∀ k (h : k < l.length), cells[off + k * 1]? = some (.int .u8 l[k]) ∧ 0 ≤ l[k] ∧ l[k] < 256
def num4 (a b c d : Int) : Int := a + b * 256 + c * 65536 + d * 16777216
theorem or_add (x y : Int) (i : Nat) (hi : i ≤ 32) (hx : x % 2 ^ i = 0) (h0 : 0 ≤ x) (h1 : x < 4294967296) (h2 : 0 ≤ y) (h3 : y < 2 ^ i) (h4 : y < 4294967296) : IntKind.u32.wrap (((BitVec.ofInt 32 x ||| BitVec.ofInt 32 y).toNat : Nat) : Int) = x + y :=
  bits_join .u32 32 (by decide) (fun n h0 h1 => by rw [IntKind.wrap_u32]; omega) i x y h0 hx (by omega) h2 h3 (by omega)
theorem or_add2 (x y : Int) (i : Nat) (hi : i ≤ 32) (hy : y % 2 ^ i = 0) (h0 : 0 ≤ y) (h1 : y < 4294967296) (h2 : 0 ≤ x) (h3 : x < 2 ^ i) (h4 : x < 4294967296) : IntKind.u32.wrap (((BitVec.ofInt 32 x ||| BitVec.ofInt 32 y).toNat : Nat) : Int) = x + y := by
  rw [BitVec.or_comm, or_add y x i hi hy h0 h1 h2 h3 h4, Int.add_comm]
abbrev Ins5 := Int × Int × Int × Int × Int
def agg5 (i : Ins5) : Value := .agg #[.int .i64 i.1, .int .i64 i.2.1, .int .i64 i.2.2.1, .int .i64 i.2.2.2.1, .int .u32 i.2.2.2.2]
/-- What eight bytes tell, and what is wrong. -/
def readL : List Int → Ins5 × Int
  | [x, r, a, b, c, d, e, f] => bif rightV x r a b (num4 c d e f) then ((x, r, a, b, num4 c d e f), 0) else ((0, 0, 0, 0, 0), 12)
  | _ => ((0, 0, 0, 0, 0), 10)
def decR (d : Ins5 × Int) : Value := .tuple #[agg5 d.1, .int .i64 d.2]
def rdecR (d : Ins5 × Int) : Value := .tuple #[agg5 d.1, .bool (d.2 == 0)]
theorem readL_ne {l : List Int} (h : l.length ≠ 8) : readL l = ((0, 0, 0, 0, 0), 10) := by
  unfold readL
  split
  · simp at h
  · rfl
theorem readL_in (l : List Int) : (l.length ≠ 8 ∧ readL l = ((0, 0, 0, 0, 0), 10)) ∨ (l.length = 8 ∧ readL l = ((0, 0, 0, 0, 0), 12)) ∨ (l.length = 8 ∧ (readL l).2 = 0) := by
  by_cases h : l.length ≠ 8
  · exact .inl ⟨h, readL_ne h⟩
  · have h8 : l.length = 8 := by omega
    match l, h8 with
    | [x, r, a, b, c, d, e, f], _ =>
      simp only [readL]
      cases rightV x r a b (num4 c d e f)
      · exact .inr (.inl ⟨rfl, rfl⟩)
      · exact .inr (.inr ⟨rfl, rfl⟩)
noncomputable def f20b : Code := Tryd.f20.body.getD .skip
noncomputable def f20ba : Code := cl f20b
noncomputable def f20bao : Array Oper := opsOf f20ba
noncomputable def f20bc : Code := cr f20b
noncomputable def f20bca : Code := cl f20bc
noncomputable def f20bcaa : Code := cl f20bca
noncomputable def f20bcaao : Array Oper := opsOf f20bcaa
noncomputable def f20bcac : Code := cr f20bca
noncomputable def f20bcaca : Code := cl f20bcac
noncomputable def f20bcacaa : Code := cl f20bcaca
noncomputable def f20bcacaao : Array Oper := opsOf f20bcacaa
noncomputable def f20bcc : Code := cr f20bc
noncomputable def f20bcca : Code := cl f20bcc
noncomputable def f20bccao : Array Oper := opsOf f20bcca
noncomputable def f20bccc : Code := cr f20bcc
noncomputable def f20bccca : Code := cl f20bccc
noncomputable def f20bcccaa : Code := cl f20bccca
noncomputable def f20bcccaao : Array Oper := opsOf f20bcccaa
noncomputable def f20bcccac : Code := cr f20bccca
noncomputable def f20bcccaca : Code := cl f20bcccac
noncomputable def f20bcccacaa : Code := cl f20bcccaca
noncomputable def f20bcccacaao : Array Oper := opsOf f20bcccacaa
noncomputable def f20bcccc : Code := cr f20bccc
noncomputable def f20bcccca : Code := cl f20bcccc
noncomputable def f20bccccao : Array Oper := opsOf f20bcccca
theorem f20ba_eq : f20ba = .region 0 f20bao false := by kernel_rfl
theorem f20bcaa_eq : f20bcaa = .region 1 f20bcaao false := by kernel_rfl
theorem f20bcacaa_eq : f20bcacaa = .region 2 f20bcacaao false := by kernel_rfl
theorem f20bcaca_eq : f20bcaca = .seq f20bcacaa .ret := by kernel_rfl
theorem f20bcac_eq : f20bcac = .cond (cop f20bcac) f20bcaca .skip := by kernel_rfl
theorem f20bca_eq : f20bca = .seq f20bcaa f20bcac := by kernel_rfl
theorem f20bcca_eq : f20bcca = .region 3 f20bccao true := by kernel_rfl
theorem f20bcccaa_eq : f20bcccaa = .region 4 f20bcccaao false := by kernel_rfl
theorem f20bcccacaa_eq : f20bcccacaa = .region 5 f20bcccacaao false := by kernel_rfl
theorem f20bcccaca_eq : f20bcccaca = .seq f20bcccacaa .ret := by kernel_rfl
theorem f20bcccac_eq : f20bcccac = .cond (cop f20bcccac) f20bcccaca .skip := by kernel_rfl
theorem f20bccca_eq : f20bccca = .seq f20bcccaa f20bcccac := by kernel_rfl
theorem f20bcccca_eq : f20bcccca = .region 6 f20bccccao false := by kernel_rfl
theorem f20bcccc_eq : f20bcccc = .seq f20bcccca .ret := by kernel_rfl
theorem f20bccc_eq : f20bccc = .seq f20bccca f20bcccc := by kernel_rfl
theorem f20bcc_eq : f20bcc = .seq f20bcca f20bccc := by kernel_rfl
theorem f20bc_eq : f20bc = .seq f20bca f20bcc := by kernel_rfl
theorem f20b_eq : f20b = .seq f20ba f20bc := by kernel_rfl
theorem f20_body : Tryd.f20.body = some f20b := by kernel_rfl
theorem f20_fn : T14.fn 20 = some Tryd.f20 := by kernel_rfl
theorem dec_nil {H : Heap} {pt : Option Addr} {cap : Nat} : ACall Tryd.prog T14 20 #[.slice pt 0 cap] H fun r H' => r = decR ((0, 0, 0, 0, 0), 10) ∧ Up H.n H H' := by
  refine acall_of' 53 (initTm 0 #[(.slice pt 0 cap)]) rfl f20_fn f20_body rfl rfl ?_
  refine aw_code f20b_eq ?_
  refine aw_then ?_
  refine aw_code f20ba_eq ?_
  refine aw_reg ?_
  obtain ⟨H1_, hH1_⟩ : ∃ x : Heap, x = H.push ⟨[Value.int .i64 0, .int .i64 0, .int .i64 0, .int .i64 0, .int .u32 0], 24, false⟩ := ⟨_, rfl⟩
  have nH1_ : H1_.n = H.n + 1 := by rw [hH1_]; rfl
  refine aops_val 2 (.pointer (some ⟨H.n, 0, none⟩)) H1_ (by kernel_rfl) (by kernel_rfl) (by kernel_rfl) ((by kernel_rfl : _ = some (Res.val (.pointer (some ⟨H.n, 0, none⟩)), H.push ⟨[Value.int .i64 0, .int .i64 0, .int .i64 0, .int .i64 0, .int .u32 0], 24, false⟩)).trans (by rw [← hH1_])) ?_
  refine aops_go 1 60 (by kernel_rfl) ?_
  refine aops_end (by kernel_rfl) (then_normal ?_)
  refine aw_code f20bc_eq ?_
  refine aw_then ?_
  refine aw_code f20bca_eq ?_
  refine aw_then ?_
  refine aw_code f20bcaa_eq ?_
  refine aw_reg ?_
  refine aops_go 3 60 (by kernel_rfl) ?_
  refine aops_end (by kernel_rfl) (then_normal ?_)
  refine aw_code f20bcac_eq ?_
  refine aw_cond (t := true) (by kernel_rfl) ?_
  refine aw_code f20bcaca_eq ?_
  refine aw_then ?_
  refine aw_code f20bcacaa_eq ?_
  refine aw_reg ?_
  refine aops_go 1 60 (by kernel_rfl) ?_
  have gH1_H_n : H1_.get (H.n) = some ⟨[Value.int .i64 0, .int .i64 0, .int .i64 0, .int .i64 0, .int .u32 0], 24, false⟩ := by rw [hH1_]; exact (Heap.get_push _ _ _).trans (if_pos rfl)
  obtain ⟨H2_, hH2_⟩ : ∃ x : Heap, x = H1_.put (H.n) ⟨[Value.int .i64 0, .int .i64 0, .int .i64 0, .int .i64 0, .int .u32 0], 24, false⟩ := ⟨_, rfl⟩
  have nH2_ : H2_.n = H1_.n := by rw [hH2_]; rfl
  refine aops_skip H2_ (by kernel_rfl) (by kernel_rfl) (by kernel_rfl) ((by kernel_rfl : _ = skp (astore T14 24 (.pointer (some ⟨H.n, 0, none⟩)) (.agg #[.int .i64 0, .int .i64 0, .int .i64 0, .int .i64 0, .int .u32 0]) H1_)).trans (by rw [astore_to gH1_H_n (by kernel_rfl), ← hH2_]; rfl)) ?_
  refine aops_go 1 60 (by kernel_rfl) ?_
  refine aops_end (by kernel_rfl) (then_normal ?_)
  have gH2_H_n : H2_.get (H.n) = some ⟨[Value.int .i64 0, .int .i64 0, .int .i64 0, .int .i64 0, .int .u32 0], 24, false⟩ := by rw [hH2_]; exact (Heap.get_put _ _ _ _).trans (if_pos rfl)
  refine aw_ret (then_ret (bodyQ_ret_to (.tuple #[.agg #[.int .i64 0, .int .i64 0, .int .i64 0, .int .i64 0, .int .u32 0], .int .i64 10]) H2_ (ares_cell1 2 24 3 (.pointer (some ⟨H.n, 0, none⟩)) H2_ (by kernel_rfl) (by kernel_rfl) (by kernel_rfl) (by kernel_rfl) ((aload_at gH2_H_n).trans (by kernel_rfl))) (by kernel_rfl) ?_))
  exact ⟨rfl, ⟨by omega, fun b hb => by rw [hH2_, Heap.get_put, if_neg (by omega), hH1_, Heap.get_push, if_neg (by omega)]⟩⟩
theorem dec_ne {H : Heap} {A off n cap : Nat} (hn : n ≠ 8) : ACall Tryd.prog T14 20 #[.slice (some ⟨A, off, none⟩) n cap] H fun r H' => r = decR ((0, 0, 0, 0, 0), 10) ∧ Up H.n H H' := by
  refine acall_of' 53 (initTm 0 #[.slice (some ⟨A, off, none⟩) n cap]) rfl f20_fn f20_body rfl rfl ?_
  refine aw_code f20b_eq ?_
  refine aw_then ?_
  refine aw_code f20ba_eq ?_
  refine aw_reg ?_
  obtain ⟨H1_, hH1_⟩ : ∃ x : Heap, x = H.push ⟨[Value.int .i64 0, .int .i64 0, .int .i64 0, .int .i64 0, .int .u32 0], 24, false⟩ := ⟨_, rfl⟩
  have nH1_ : H1_.n = H.n + 1 := by rw [hH1_]; rfl
  refine aops_val 2 (.pointer (some ⟨H.n, 0, none⟩)) H1_ (by kernel_rfl) (by kernel_rfl) (by kernel_rfl) ((by kernel_rfl : _ = some (Res.val (.pointer (some ⟨H.n, 0, none⟩)), H.push ⟨[Value.int .i64 0, .int .i64 0, .int .i64 0, .int .i64 0, .int .u32 0], 24, false⟩)).trans (by rw [← hH1_])) ?_
  refine aops_go 1 60 (by kernel_rfl) ?_
  refine aops_end (by kernel_rfl) (then_normal ?_)
  refine aw_code f20bc_eq ?_
  refine aw_then ?_
  refine aw_code f20bca_eq ?_
  refine aw_then ?_
  refine aw_code f20bcaa_eq ?_
  refine aw_reg ?_
  refine aops_go 3 60 (by kernel_rfl) ?_
  refine aops_end (by kernel_rfl) (then_normal ?_)
  refine aw_code f20bcac_eq ?_
  refine aw_cond (t := true) (see_bool (by kernel_rfl) ((by simp; omega) : ((((n : Nat) : Int) != 8)) = true)) ?_
  refine aw_code f20bcaca_eq ?_
  refine aw_then ?_
  refine aw_code f20bcacaa_eq ?_
  refine aw_reg ?_
  refine aops_go 1 60 (by kernel_rfl) ?_
  have gH1_H_n : H1_.get (H.n) = some ⟨[Value.int .i64 0, .int .i64 0, .int .i64 0, .int .i64 0, .int .u32 0], 24, false⟩ := by rw [hH1_]; exact (Heap.get_push _ _ _).trans (if_pos rfl)
  obtain ⟨H2_, hH2_⟩ : ∃ x : Heap, x = H1_.put (H.n) ⟨[Value.int .i64 0, .int .i64 0, .int .i64 0, .int .i64 0, .int .u32 0], 24, false⟩ := ⟨_, rfl⟩
  have nH2_ : H2_.n = H1_.n := by rw [hH2_]; rfl
  refine aops_skip H2_ (by kernel_rfl) (by kernel_rfl) (by kernel_rfl) ((by kernel_rfl : _ = skp (astore T14 24 (.pointer (some ⟨H.n, 0, none⟩)) (.agg #[.int .i64 0, .int .i64 0, .int .i64 0, .int .i64 0, .int .u32 0]) H1_)).trans (by rw [astore_to gH1_H_n (by kernel_rfl), ← hH2_]; rfl)) ?_
  refine aops_go 1 60 (by kernel_rfl) ?_
  refine aops_end (by kernel_rfl) (then_normal ?_)
  have gH2_H_n : H2_.get (H.n) = some ⟨[Value.int .i64 0, .int .i64 0, .int .i64 0, .int .i64 0, .int .u32 0], 24, false⟩ := by rw [hH2_]; exact (Heap.get_put _ _ _ _).trans (if_pos rfl)
  refine aw_ret (then_ret (bodyQ_ret_to (.tuple #[.agg #[.int .i64 0, .int .i64 0, .int .i64 0, .int .i64 0, .int .u32 0], .int .i64 10]) H2_ (ares_cell1 2 24 3 (.pointer (some ⟨H.n, 0, none⟩)) H2_ (by kernel_rfl) (by kernel_rfl) (by kernel_rfl) (by kernel_rfl) ((aload_at gH2_H_n).trans (by kernel_rfl))) (by kernel_rfl) ?_))
  exact ⟨rfl, ⟨by omega, fun b hb => by rw [hH2_, Heap.get_put, if_neg (by omega), hH1_, Heap.get_push, if_neg (by omega)]⟩⟩
set_option maxHeartbeats 1000000 in
theorem dec_ok {H : Heap} {A off cap : Nat} {cells : List Value} {e : TypeId} {ro : Bool} {x0 : Int} (c0 : cells[off + 0 * 1]? = some (.int .u8 x0)) (l0 : 0 ≤ x0) (m0 : x0 < 256) {x1 : Int} (c1 : cells[off + 1 * 1]? = some (.int .u8 x1)) (l1 : 0 ≤ x1) (m1 : x1 < 256) {x2 : Int} (c2 : cells[off + 2 * 1]? = some (.int .u8 x2)) (l2 : 0 ≤ x2) (m2 : x2 < 256) {x3 : Int} (c3 : cells[off + 3 * 1]? = some (.int .u8 x3)) (l3 : 0 ≤ x3) (m3 : x3 < 256) {x4 : Int} (c4 : cells[off + 4 * 1]? = some (.int .u8 x4)) (l4 : 0 ≤ x4) (m4 : x4 < 256) {x5 : Int} (c5 : cells[off + 5 * 1]? = some (.int .u8 x5)) (l5 : 0 ≤ x5) (m5 : x5 < 256) {x6 : Int} (c6 : cells[off + 6 * 1]? = some (.int .u8 x6)) (l6 : 0 ≤ x6) (m6 : x6 < 256) {x7 : Int} (c7 : cells[off + 7 * 1]? = some (.int .u8 x7)) (l7 : 0 ≤ x7) (m7 : x7 < 256) (gA : H.get A = some ⟨cells, e, ro⟩) (hA : A < H.n) (hr : rightV x0 x1 x2 x3 (((x4 + (x5 * 256)) + (x6 * 65536)) + (x7 * 16777216)) = true) : ACall Tryd.prog T14 20 #[.slice (some ⟨A, off, none⟩) 8 cap] H fun r H' => r = decR ((x0, x1, x2, x3, (((x4 + (x5 * 256)) + (x6 * 65536)) + (x7 * 16777216))), 0) ∧ Up H.n H H' := by
  refine acall_of' 53 (initTm 0 #[.slice (some ⟨A, off, none⟩) 8 cap]) rfl f20_fn f20_body rfl rfl ?_
  refine aw_code f20b_eq ?_
  refine aw_then ?_
  refine aw_code f20ba_eq ?_
  refine aw_reg ?_
  obtain ⟨H1_, hH1_⟩ : ∃ x : Heap, x = H.push ⟨[Value.int .i64 0, .int .i64 0, .int .i64 0, .int .i64 0, .int .u32 0], 24, false⟩ := ⟨_, rfl⟩
  have nH1_ : H1_.n = H.n + 1 := by rw [hH1_]; rfl
  refine aops_val 2 (.pointer (some ⟨H.n, 0, none⟩)) H1_ (by kernel_rfl) (by kernel_rfl) (by kernel_rfl) ((by kernel_rfl : _ = some (Res.val (.pointer (some ⟨H.n, 0, none⟩)), H.push ⟨[Value.int .i64 0, .int .i64 0, .int .i64 0, .int .i64 0, .int .u32 0], 24, false⟩)).trans (by rw [← hH1_])) ?_
  refine aops_go 1 60 (by kernel_rfl) ?_
  refine aops_end (by kernel_rfl) (then_normal ?_)
  refine aw_code f20bc_eq ?_
  refine aw_then ?_
  refine aw_code f20bca_eq ?_
  refine aw_then ?_
  refine aw_code f20bcaa_eq ?_
  refine aw_reg ?_
  refine aops_go 3 60 (by kernel_rfl) ?_
  refine aops_end (by kernel_rfl) (then_normal ?_)
  refine aw_code f20bcac_eq ?_
  refine aw_cond (t := false) (by kernel_rfl) ?_
  refine aw_skip (then_normal ?_)
  refine aw_code f20bcc_eq ?_
  refine aw_then ?_
  refine aw_code f20bcca_eq ?_
  refine aw_draw0w (by kernel_rfl) ?_
  refine aops_go 1 60 (by kernel_rfl) ?_
  refine aops_val 10 (.pointer (some ⟨A, off + 0 * 1, none⟩)) H1_ (by kernel_rfl) (by kernel_rfl) (by kernel_rfl) (by kernel_rfl) ?_
  have gH1_A : H1_.get (A) = some ⟨cells, e, ro⟩ := by rw [hH1_, Heap.get_push, if_neg (by omega)]; exact gA
  refine aops_val 11 (.int .u8 x0) H1_ (by kernel_rfl) (by kernel_rfl) (by kernel_rfl) ((by kernel_rfl : _ = val (aload T14 5 (.pointer (some ⟨A, off + 0 * 1, none⟩)) H1_) H1_).trans (val_of ((aload_at gH1_A).trans (aloadC_cellB (n := 1) (by kernel_rfl) (by kernel_rfl) c0)))) ?_
  refine aops_go 1 60 (by kernel_rfl) ?_
  refine aops_see 12 (.int .i64 x0) (see_int (x := IntKind.i64.wrap x0) (by kernel_rfl) (w64 rfl (by omega) (by omega))) ?_
  refine aops_go 1 60 (by kernel_rfl) ?_
  refine aops_val 14 (.pointer (some ⟨A, off + 1 * 1, none⟩)) H1_ (by kernel_rfl) (by kernel_rfl) (by kernel_rfl) (by kernel_rfl) ?_
  refine aops_val 15 (.int .u8 x1) H1_ (by kernel_rfl) (by kernel_rfl) (by kernel_rfl) ((by kernel_rfl : _ = val (aload T14 5 (.pointer (some ⟨A, off + 1 * 1, none⟩)) H1_) H1_).trans (val_of ((aload_at gH1_A).trans (aloadC_cellB (n := 1) (by kernel_rfl) (by kernel_rfl) c1)))) ?_
  refine aops_go 1 60 (by kernel_rfl) ?_
  refine aops_see 16 (.int .i64 x1) (see_int (x := IntKind.i64.wrap x1) (by kernel_rfl) (w64 rfl (by omega) (by omega))) ?_
  refine aops_go 1 60 (by kernel_rfl) ?_
  refine aops_val 18 (.pointer (some ⟨A, off + 2 * 1, none⟩)) H1_ (by kernel_rfl) (by kernel_rfl) (by kernel_rfl) (by kernel_rfl) ?_
  refine aops_val 19 (.int .u8 x2) H1_ (by kernel_rfl) (by kernel_rfl) (by kernel_rfl) ((by kernel_rfl : _ = val (aload T14 5 (.pointer (some ⟨A, off + 2 * 1, none⟩)) H1_) H1_).trans (val_of ((aload_at gH1_A).trans (aloadC_cellB (n := 1) (by kernel_rfl) (by kernel_rfl) c2)))) ?_
  refine aops_go 1 60 (by kernel_rfl) ?_
  refine aops_see 20 (.int .i64 x2) (see_int (x := IntKind.i64.wrap x2) (by kernel_rfl) (w64 rfl (by omega) (by omega))) ?_
  refine aops_go 1 60 (by kernel_rfl) ?_
  refine aops_val 22 (.pointer (some ⟨A, off + 3 * 1, none⟩)) H1_ (by kernel_rfl) (by kernel_rfl) (by kernel_rfl) (by kernel_rfl) ?_
  refine aops_val 23 (.int .u8 x3) H1_ (by kernel_rfl) (by kernel_rfl) (by kernel_rfl) ((by kernel_rfl : _ = val (aload T14 5 (.pointer (some ⟨A, off + 3 * 1, none⟩)) H1_) H1_).trans (val_of ((aload_at gH1_A).trans (aloadC_cellB (n := 1) (by kernel_rfl) (by kernel_rfl) c3)))) ?_
  refine aops_go 1 60 (by kernel_rfl) ?_
  refine aops_see 24 (.int .i64 x3) (see_int (x := IntKind.i64.wrap x3) (by kernel_rfl) (w64 rfl (by omega) (by omega))) ?_
  refine aops_go 1 60 (by kernel_rfl) ?_
  refine aops_val 26 (.pointer (some ⟨A, off + 4 * 1, none⟩)) H1_ (by kernel_rfl) (by kernel_rfl) (by kernel_rfl) (by kernel_rfl) ?_
  refine aops_val 27 (.int .u8 x4) H1_ (by kernel_rfl) (by kernel_rfl) (by kernel_rfl) ((by kernel_rfl : _ = val (aload T14 5 (.pointer (some ⟨A, off + 4 * 1, none⟩)) H1_) H1_).trans (val_of ((aload_at gH1_A).trans (aloadC_cellB (n := 1) (by kernel_rfl) (by kernel_rfl) c4)))) ?_
  refine aops_go 1 60 (by kernel_rfl) ?_
  refine aops_see 28 (.int .u32 x4) (see_int (x := IntKind.u32.wrap x4) (by kernel_rfl) (wu32 rfl (by omega) (by omega))) ?_
  refine aops_go 1 60 (by kernel_rfl) ?_
  refine aops_val 30 (.pointer (some ⟨A, off + 5 * 1, none⟩)) H1_ (by kernel_rfl) (by kernel_rfl) (by kernel_rfl) (by kernel_rfl) ?_
  refine aops_val 31 (.int .u8 x5) H1_ (by kernel_rfl) (by kernel_rfl) (by kernel_rfl) ((by kernel_rfl : _ = val (aload T14 5 (.pointer (some ⟨A, off + 5 * 1, none⟩)) H1_) H1_).trans (val_of ((aload_at gH1_A).trans (aloadC_cellB (n := 1) (by kernel_rfl) (by kernel_rfl) c5)))) ?_
  refine aops_go 1 60 (by kernel_rfl) ?_
  refine aops_see 32 (.int .u32 x5) (see_int (x := IntKind.u32.wrap x5) (by kernel_rfl) (wu32 rfl (by omega) (by omega))) ?_
  refine aops_go 1 60 (by kernel_rfl) ?_
  refine aops_see 33 (.int .u32 (x5 * 256)) (see_int (x := (IntKind.u32.wrap (x5 * 256))) (by kernel_rfl) (wu32 rfl (by omega) (by omega))) ?_
  refine aops_go 1 60 (by kernel_rfl) ?_
  refine aops_see 34 (.int .u32 (x4 + (x5 * 256))) (see_int (x := (IntKind.u32.wrap (((BitVec.ofInt 32 x4 ||| BitVec.ofInt 32 (x5 * 256)).toNat : Nat) : Int))) (by kernel_rfl) (or_add2 x4 (x5 * 256) 8 (by omega) (by omega) (by omega) (by omega) (by omega) (by omega) (by omega))) ?_
  refine aops_go 1 60 (by kernel_rfl) ?_
  refine aops_val 36 (.pointer (some ⟨A, off + 6 * 1, none⟩)) H1_ (by kernel_rfl) (by kernel_rfl) (by kernel_rfl) (by kernel_rfl) ?_
  refine aops_val 37 (.int .u8 x6) H1_ (by kernel_rfl) (by kernel_rfl) (by kernel_rfl) ((by kernel_rfl : _ = val (aload T14 5 (.pointer (some ⟨A, off + 6 * 1, none⟩)) H1_) H1_).trans (val_of ((aload_at gH1_A).trans (aloadC_cellB (n := 1) (by kernel_rfl) (by kernel_rfl) c6)))) ?_
  refine aops_go 1 60 (by kernel_rfl) ?_
  refine aops_see 38 (.int .u32 x6) (see_int (x := IntKind.u32.wrap x6) (by kernel_rfl) (wu32 rfl (by omega) (by omega))) ?_
  refine aops_go 1 60 (by kernel_rfl) ?_
  refine aops_see 39 (.int .u32 (x6 * 65536)) (see_int (x := (IntKind.u32.wrap (x6 * 65536))) (by kernel_rfl) (wu32 rfl (by omega) (by omega))) ?_
  refine aops_go 1 60 (by kernel_rfl) ?_
  refine aops_see 40 (.int .u32 ((x4 + (x5 * 256)) + (x6 * 65536))) (see_int (x := (IntKind.u32.wrap (((BitVec.ofInt 32 (x4 + (x5 * 256)) ||| BitVec.ofInt 32 (x6 * 65536)).toNat : Nat) : Int))) (by kernel_rfl) (or_add2 (x4 + (x5 * 256)) (x6 * 65536) 16 (by omega) (by omega) (by omega) (by omega) (by omega) (by omega) (by omega))) ?_
  refine aops_go 1 60 (by kernel_rfl) ?_
  refine aops_val 42 (.pointer (some ⟨A, off + 7 * 1, none⟩)) H1_ (by kernel_rfl) (by kernel_rfl) (by kernel_rfl) (by kernel_rfl) ?_
  refine aops_val 43 (.int .u8 x7) H1_ (by kernel_rfl) (by kernel_rfl) (by kernel_rfl) ((by kernel_rfl : _ = val (aload T14 5 (.pointer (some ⟨A, off + 7 * 1, none⟩)) H1_) H1_).trans (val_of ((aload_at gH1_A).trans (aloadC_cellB (n := 1) (by kernel_rfl) (by kernel_rfl) c7)))) ?_
  refine aops_go 1 60 (by kernel_rfl) ?_
  refine aops_see 44 (.int .u32 x7) (see_int (x := IntKind.u32.wrap x7) (by kernel_rfl) (wu32 rfl (by omega) (by omega))) ?_
  refine aops_go 1 60 (by kernel_rfl) ?_
  refine aops_see 45 (.int .u32 (x7 * 16777216)) (see_int (x := (IntKind.u32.wrap (x7 * 16777216))) (by kernel_rfl) (wu32 rfl (by omega) (by omega))) ?_
  refine aops_go 1 60 (by kernel_rfl) ?_
  refine aops_see 46 (.int .u32 (((x4 + (x5 * 256)) + (x6 * 65536)) + (x7 * 16777216))) (see_int (x := (IntKind.u32.wrap (((BitVec.ofInt 32 ((x4 + (x5 * 256)) + (x6 * 65536)) ||| BitVec.ofInt 32 (x7 * 16777216)).toNat : Nat) : Int))) (by kernel_rfl) (or_add2 ((x4 + (x5 * 256)) + (x6 * 65536)) (x7 * 16777216) 24 (by omega) (by omega) (by omega) (by omega) (by omega) (by omega) (by omega))) ?_
  refine aops_go 1 60 (by kernel_rfl) ?_
  obtain ⟨H2_, hH2_⟩ : ∃ x : Heap, x = H1_.push ⟨[Value.int .i64 0, .int .i64 0, .int .i64 0, .int .i64 0, .int .u32 0], 24, false⟩ := ⟨_, rfl⟩
  have nH2_ : H2_.n = H1_.n + 1 := by rw [hH2_]; rfl
  refine aops_val 4 (.pointer (some ⟨H1_.n, 0, none⟩)) H2_ (by kernel_rfl) (by kernel_rfl) (by kernel_rfl) ((by kernel_rfl : _ = some (Res.val (.pointer (some ⟨H1_.n, 0, none⟩)), H1_.push ⟨[Value.int .i64 0, .int .i64 0, .int .i64 0, .int .i64 0, .int .u32 0], 24, false⟩)).trans (by rw [← hH2_])) ?_
  have gH2_H1__n : H2_.get (H1_.n) = some ⟨[Value.int .i64 0, .int .i64 0, .int .i64 0, .int .i64 0, .int .u32 0], 24, false⟩ := by rw [hH2_]; exact (Heap.get_push _ _ _).trans (if_pos rfl)
  obtain ⟨H3_, hH3_⟩ : ∃ x : Heap, x = H2_.put (H1_.n) ⟨[Value.int .i64 x0, .int .i64 x1, .int .i64 x2, .int .i64 x3, .int .u32 (((x4 + (x5 * 256)) + (x6 * 65536)) + (x7 * 16777216))], 24, false⟩ := ⟨_, rfl⟩
  have nH3_ : H3_.n = H2_.n := by rw [hH3_]; rfl
  refine aops_skip H3_ (by kernel_rfl) (by kernel_rfl) (by kernel_rfl) ((by kernel_rfl : _ = skp (astore T14 24 (.pointer (some ⟨H1_.n, 0, none⟩)) (.agg #[.int .i64 x0, .int .i64 x1, .int .i64 x2, .int .i64 x3, .int .u32 (((x4 + (x5 * 256)) + (x6 * 65536)) + (x7 * 16777216))]) H2_)).trans (by rw [astore_to gH2_H1__n (by kernel_rfl), ← hH3_]; rfl)) ?_
  refine aops_end (by kernel_rfl) (then_normal ?_)
  refine aw_code f20bccc_eq ?_
  refine aw_then ?_
  refine aw_code f20bccca_eq ?_
  refine aw_then ?_
  refine aw_code f20bcccaa_eq ?_
  refine aw_reg ?_
  have gH3_H1__n : H3_.get (H1_.n) = some ⟨[Value.int .i64 x0, .int .i64 x1, .int .i64 x2, .int .i64 x3, .int .u32 (((x4 + (x5 * 256)) + (x6 * 65536)) + (x7 * 16777216))], 24, false⟩ := by rw [hH3_]; exact (Heap.get_put _ _ _ _).trans (if_pos rfl)
  refine aops_val 48 (.agg #[.int .i64 x0, .int .i64 x1, .int .i64 x2, .int .i64 x3, .int .u32 (((x4 + (x5 * 256)) + (x6 * 65536)) + (x7 * 16777216))]) H3_ (by kernel_rfl) (by kernel_rfl) (by kernel_rfl) ((by kernel_rfl : _ = val (aload T14 24 (.pointer (some ⟨H1_.n, 0, none⟩)) H3_) H3_).trans (val_of ((aload_at gH3_H1__n).trans (by kernel_rfl)))) ?_
  refine aops_ask 49 (.bool true) 19 #[.agg #[.int .i64 x0, .int .i64 x1, .int .i64 x2, .int .i64 x3, .int .u32 (((x4 + (x5 * 256)) + (x6 * 65536)) + (x7 * 16777216))]] (by kernel_rfl) (by kernel_rfl) (by kernel_rfl) (by kernel_rfl) (show some (Value.bool (rightV x0 x1 x2 x3 (((x4 + (x5 * 256)) + (x6 * 65536)) + (x7 * 16777216)))) = _ by rw [hr]) ?_
  refine aops_go 1 60 (by kernel_rfl) ?_
  refine aops_end (by kernel_rfl) (then_normal ?_)
  refine aw_code f20bcccac_eq ?_
  refine aw_cond (t := false) (by kernel_rfl) ?_
  refine aw_skip (then_normal ?_)
  refine aw_code f20bcccc_eq ?_
  refine aw_then ?_
  refine aw_code f20bcccca_eq ?_
  refine aw_reg ?_
  refine aops_val 52 (.agg #[.int .i64 x0, .int .i64 x1, .int .i64 x2, .int .i64 x3, .int .u32 (((x4 + (x5 * 256)) + (x6 * 65536)) + (x7 * 16777216))]) H3_ (by kernel_rfl) (by kernel_rfl) (by kernel_rfl) ((by kernel_rfl : _ = val (aload T14 24 (.pointer (some ⟨H1_.n, 0, none⟩)) H3_) H3_).trans (val_of ((aload_at gH3_H1__n).trans (by kernel_rfl)))) ?_
  have gH3_H_n : H3_.get (H.n) = some ⟨[Value.int .i64 0, .int .i64 0, .int .i64 0, .int .i64 0, .int .u32 0], 24, false⟩ := by rw [hH3_, Heap.get_put, if_neg (by omega)]; rw [hH2_, Heap.get_push, if_neg (by omega)]; rw [hH1_]; exact (Heap.get_push _ _ _).trans (if_pos rfl)
  obtain ⟨H4_, hH4_⟩ : ∃ x : Heap, x = H3_.put (H.n) ⟨[Value.int .i64 x0, .int .i64 x1, .int .i64 x2, .int .i64 x3, .int .u32 (((x4 + (x5 * 256)) + (x6 * 65536)) + (x7 * 16777216))], 24, false⟩ := ⟨_, rfl⟩
  have nH4_ : H4_.n = H3_.n := by rw [hH4_]; rfl
  refine aops_skip H4_ (by kernel_rfl) (by kernel_rfl) (by kernel_rfl) ((by kernel_rfl : _ = skp (astore T14 24 (.pointer (some ⟨H.n, 0, none⟩)) (.agg #[.int .i64 x0, .int .i64 x1, .int .i64 x2, .int .i64 x3, .int .u32 (((x4 + (x5 * 256)) + (x6 * 65536)) + (x7 * 16777216))]) H3_)).trans (by rw [astore_to gH3_H_n (by kernel_rfl), ← hH4_]; rfl)) ?_
  refine aops_go 1 60 (by kernel_rfl) ?_
  refine aops_end (by kernel_rfl) (then_normal ?_)
  have gH4_H_n : H4_.get (H.n) = some ⟨[Value.int .i64 x0, .int .i64 x1, .int .i64 x2, .int .i64 x3, .int .u32 (((x4 + (x5 * 256)) + (x6 * 65536)) + (x7 * 16777216))], 24, false⟩ := by rw [hH4_]; exact (Heap.get_put _ _ _ _).trans (if_pos rfl)
  refine aw_ret (bodyQ_ret_to (.tuple #[.agg #[.int .i64 x0, .int .i64 x1, .int .i64 x2, .int .i64 x3, .int .u32 (((x4 + (x5 * 256)) + (x6 * 65536)) + (x7 * 16777216))], .int .i64 0]) H4_ (ares_cell1 2 24 3 (.pointer (some ⟨H.n, 0, none⟩)) H4_ (by kernel_rfl) (by kernel_rfl) (by kernel_rfl) (by kernel_rfl) ((aload_at gH4_H_n).trans (by kernel_rfl))) (by kernel_rfl) ?_)
  exact ⟨rfl, ⟨by omega, fun b hb => by rw [hH4_, Heap.get_put, if_neg (by omega), hH3_, Heap.get_put, if_neg (by omega), hH2_, Heap.get_push, if_neg (by omega), hH1_, Heap.get_push, if_neg (by omega)]⟩⟩
set_option maxHeartbeats 1000000 in
theorem dec_no {H : Heap} {A off cap : Nat} {cells : List Value} {e : TypeId} {ro : Bool} {x0 : Int} (c0 : cells[off + 0 * 1]? = some (.int .u8 x0)) (l0 : 0 ≤ x0) (m0 : x0 < 256) {x1 : Int} (c1 : cells[off + 1 * 1]? = some (.int .u8 x1)) (l1 : 0 ≤ x1) (m1 : x1 < 256) {x2 : Int} (c2 : cells[off + 2 * 1]? = some (.int .u8 x2)) (l2 : 0 ≤ x2) (m2 : x2 < 256) {x3 : Int} (c3 : cells[off + 3 * 1]? = some (.int .u8 x3)) (l3 : 0 ≤ x3) (m3 : x3 < 256) {x4 : Int} (c4 : cells[off + 4 * 1]? = some (.int .u8 x4)) (l4 : 0 ≤ x4) (m4 : x4 < 256) {x5 : Int} (c5 : cells[off + 5 * 1]? = some (.int .u8 x5)) (l5 : 0 ≤ x5) (m5 : x5 < 256) {x6 : Int} (c6 : cells[off + 6 * 1]? = some (.int .u8 x6)) (l6 : 0 ≤ x6) (m6 : x6 < 256) {x7 : Int} (c7 : cells[off + 7 * 1]? = some (.int .u8 x7)) (l7 : 0 ≤ x7) (m7 : x7 < 256) (gA : H.get A = some ⟨cells, e, ro⟩) (hA : A < H.n) (hr : rightV x0 x1 x2 x3 (((x4 + (x5 * 256)) + (x6 * 65536)) + (x7 * 16777216)) = false) : ACall Tryd.prog T14 20 #[.slice (some ⟨A, off, none⟩) 8 cap] H fun r H' => r = decR ((0, 0, 0, 0, 0), 12) ∧ Up H.n H H' := by
  refine acall_of' 53 (initTm 0 #[.slice (some ⟨A, off, none⟩) 8 cap]) rfl f20_fn f20_body rfl rfl ?_
  refine aw_code f20b_eq ?_
  refine aw_then ?_
  refine aw_code f20ba_eq ?_
  refine aw_reg ?_
  obtain ⟨H1_, hH1_⟩ : ∃ x : Heap, x = H.push ⟨[Value.int .i64 0, .int .i64 0, .int .i64 0, .int .i64 0, .int .u32 0], 24, false⟩ := ⟨_, rfl⟩
  have nH1_ : H1_.n = H.n + 1 := by rw [hH1_]; rfl
  refine aops_val 2 (.pointer (some ⟨H.n, 0, none⟩)) H1_ (by kernel_rfl) (by kernel_rfl) (by kernel_rfl) ((by kernel_rfl : _ = some (Res.val (.pointer (some ⟨H.n, 0, none⟩)), H.push ⟨[Value.int .i64 0, .int .i64 0, .int .i64 0, .int .i64 0, .int .u32 0], 24, false⟩)).trans (by rw [← hH1_])) ?_
  refine aops_go 1 60 (by kernel_rfl) ?_
  refine aops_end (by kernel_rfl) (then_normal ?_)
  refine aw_code f20bc_eq ?_
  refine aw_then ?_
  refine aw_code f20bca_eq ?_
  refine aw_then ?_
  refine aw_code f20bcaa_eq ?_
  refine aw_reg ?_
  refine aops_go 3 60 (by kernel_rfl) ?_
  refine aops_end (by kernel_rfl) (then_normal ?_)
  refine aw_code f20bcac_eq ?_
  refine aw_cond (t := false) (by kernel_rfl) ?_
  refine aw_skip (then_normal ?_)
  refine aw_code f20bcc_eq ?_
  refine aw_then ?_
  refine aw_code f20bcca_eq ?_
  refine aw_draw0w (by kernel_rfl) ?_
  refine aops_go 1 60 (by kernel_rfl) ?_
  refine aops_val 10 (.pointer (some ⟨A, off + 0 * 1, none⟩)) H1_ (by kernel_rfl) (by kernel_rfl) (by kernel_rfl) (by kernel_rfl) ?_
  have gH1_A : H1_.get (A) = some ⟨cells, e, ro⟩ := by rw [hH1_, Heap.get_push, if_neg (by omega)]; exact gA
  refine aops_val 11 (.int .u8 x0) H1_ (by kernel_rfl) (by kernel_rfl) (by kernel_rfl) ((by kernel_rfl : _ = val (aload T14 5 (.pointer (some ⟨A, off + 0 * 1, none⟩)) H1_) H1_).trans (val_of ((aload_at gH1_A).trans (aloadC_cellB (n := 1) (by kernel_rfl) (by kernel_rfl) c0)))) ?_
  refine aops_go 1 60 (by kernel_rfl) ?_
  refine aops_see 12 (.int .i64 x0) (see_int (x := IntKind.i64.wrap x0) (by kernel_rfl) (w64 rfl (by omega) (by omega))) ?_
  refine aops_go 1 60 (by kernel_rfl) ?_
  refine aops_val 14 (.pointer (some ⟨A, off + 1 * 1, none⟩)) H1_ (by kernel_rfl) (by kernel_rfl) (by kernel_rfl) (by kernel_rfl) ?_
  refine aops_val 15 (.int .u8 x1) H1_ (by kernel_rfl) (by kernel_rfl) (by kernel_rfl) ((by kernel_rfl : _ = val (aload T14 5 (.pointer (some ⟨A, off + 1 * 1, none⟩)) H1_) H1_).trans (val_of ((aload_at gH1_A).trans (aloadC_cellB (n := 1) (by kernel_rfl) (by kernel_rfl) c1)))) ?_
  refine aops_go 1 60 (by kernel_rfl) ?_
  refine aops_see 16 (.int .i64 x1) (see_int (x := IntKind.i64.wrap x1) (by kernel_rfl) (w64 rfl (by omega) (by omega))) ?_
  refine aops_go 1 60 (by kernel_rfl) ?_
  refine aops_val 18 (.pointer (some ⟨A, off + 2 * 1, none⟩)) H1_ (by kernel_rfl) (by kernel_rfl) (by kernel_rfl) (by kernel_rfl) ?_
  refine aops_val 19 (.int .u8 x2) H1_ (by kernel_rfl) (by kernel_rfl) (by kernel_rfl) ((by kernel_rfl : _ = val (aload T14 5 (.pointer (some ⟨A, off + 2 * 1, none⟩)) H1_) H1_).trans (val_of ((aload_at gH1_A).trans (aloadC_cellB (n := 1) (by kernel_rfl) (by kernel_rfl) c2)))) ?_
  refine aops_go 1 60 (by kernel_rfl) ?_
  refine aops_see 20 (.int .i64 x2) (see_int (x := IntKind.i64.wrap x2) (by kernel_rfl) (w64 rfl (by omega) (by omega))) ?_
  refine aops_go 1 60 (by kernel_rfl) ?_
  refine aops_val 22 (.pointer (some ⟨A, off + 3 * 1, none⟩)) H1_ (by kernel_rfl) (by kernel_rfl) (by kernel_rfl) (by kernel_rfl) ?_
  refine aops_val 23 (.int .u8 x3) H1_ (by kernel_rfl) (by kernel_rfl) (by kernel_rfl) ((by kernel_rfl : _ = val (aload T14 5 (.pointer (some ⟨A, off + 3 * 1, none⟩)) H1_) H1_).trans (val_of ((aload_at gH1_A).trans (aloadC_cellB (n := 1) (by kernel_rfl) (by kernel_rfl) c3)))) ?_
  refine aops_go 1 60 (by kernel_rfl) ?_
  refine aops_see 24 (.int .i64 x3) (see_int (x := IntKind.i64.wrap x3) (by kernel_rfl) (w64 rfl (by omega) (by omega))) ?_
  refine aops_go 1 60 (by kernel_rfl) ?_
  refine aops_val 26 (.pointer (some ⟨A, off + 4 * 1, none⟩)) H1_ (by kernel_rfl) (by kernel_rfl) (by kernel_rfl) (by kernel_rfl) ?_
  refine aops_val 27 (.int .u8 x4) H1_ (by kernel_rfl) (by kernel_rfl) (by kernel_rfl) ((by kernel_rfl : _ = val (aload T14 5 (.pointer (some ⟨A, off + 4 * 1, none⟩)) H1_) H1_).trans (val_of ((aload_at gH1_A).trans (aloadC_cellB (n := 1) (by kernel_rfl) (by kernel_rfl) c4)))) ?_
  refine aops_go 1 60 (by kernel_rfl) ?_
  refine aops_see 28 (.int .u32 x4) (see_int (x := IntKind.u32.wrap x4) (by kernel_rfl) (wu32 rfl (by omega) (by omega))) ?_
  refine aops_go 1 60 (by kernel_rfl) ?_
  refine aops_val 30 (.pointer (some ⟨A, off + 5 * 1, none⟩)) H1_ (by kernel_rfl) (by kernel_rfl) (by kernel_rfl) (by kernel_rfl) ?_
  refine aops_val 31 (.int .u8 x5) H1_ (by kernel_rfl) (by kernel_rfl) (by kernel_rfl) ((by kernel_rfl : _ = val (aload T14 5 (.pointer (some ⟨A, off + 5 * 1, none⟩)) H1_) H1_).trans (val_of ((aload_at gH1_A).trans (aloadC_cellB (n := 1) (by kernel_rfl) (by kernel_rfl) c5)))) ?_
  refine aops_go 1 60 (by kernel_rfl) ?_
  refine aops_see 32 (.int .u32 x5) (see_int (x := IntKind.u32.wrap x5) (by kernel_rfl) (wu32 rfl (by omega) (by omega))) ?_
  refine aops_go 1 60 (by kernel_rfl) ?_
  refine aops_see 33 (.int .u32 (x5 * 256)) (see_int (x := (IntKind.u32.wrap (x5 * 256))) (by kernel_rfl) (wu32 rfl (by omega) (by omega))) ?_
  refine aops_go 1 60 (by kernel_rfl) ?_
  refine aops_see 34 (.int .u32 (x4 + (x5 * 256))) (see_int (x := (IntKind.u32.wrap (((BitVec.ofInt 32 x4 ||| BitVec.ofInt 32 (x5 * 256)).toNat : Nat) : Int))) (by kernel_rfl) (or_add2 x4 (x5 * 256) 8 (by omega) (by omega) (by omega) (by omega) (by omega) (by omega) (by omega))) ?_
  refine aops_go 1 60 (by kernel_rfl) ?_
  refine aops_val 36 (.pointer (some ⟨A, off + 6 * 1, none⟩)) H1_ (by kernel_rfl) (by kernel_rfl) (by kernel_rfl) (by kernel_rfl) ?_
  refine aops_val 37 (.int .u8 x6) H1_ (by kernel_rfl) (by kernel_rfl) (by kernel_rfl) ((by kernel_rfl : _ = val (aload T14 5 (.pointer (some ⟨A, off + 6 * 1, none⟩)) H1_) H1_).trans (val_of ((aload_at gH1_A).trans (aloadC_cellB (n := 1) (by kernel_rfl) (by kernel_rfl) c6)))) ?_
  refine aops_go 1 60 (by kernel_rfl) ?_
  refine aops_see 38 (.int .u32 x6) (see_int (x := IntKind.u32.wrap x6) (by kernel_rfl) (wu32 rfl (by omega) (by omega))) ?_
  refine aops_go 1 60 (by kernel_rfl) ?_
  refine aops_see 39 (.int .u32 (x6 * 65536)) (see_int (x := (IntKind.u32.wrap (x6 * 65536))) (by kernel_rfl) (wu32 rfl (by omega) (by omega))) ?_
  refine aops_go 1 60 (by kernel_rfl) ?_
  refine aops_see 40 (.int .u32 ((x4 + (x5 * 256)) + (x6 * 65536))) (see_int (x := (IntKind.u32.wrap (((BitVec.ofInt 32 (x4 + (x5 * 256)) ||| BitVec.ofInt 32 (x6 * 65536)).toNat : Nat) : Int))) (by kernel_rfl) (or_add2 (x4 + (x5 * 256)) (x6 * 65536) 16 (by omega) (by omega) (by omega) (by omega) (by omega) (by omega) (by omega))) ?_
  refine aops_go 1 60 (by kernel_rfl) ?_
  refine aops_val 42 (.pointer (some ⟨A, off + 7 * 1, none⟩)) H1_ (by kernel_rfl) (by kernel_rfl) (by kernel_rfl) (by kernel_rfl) ?_
  refine aops_val 43 (.int .u8 x7) H1_ (by kernel_rfl) (by kernel_rfl) (by kernel_rfl) ((by kernel_rfl : _ = val (aload T14 5 (.pointer (some ⟨A, off + 7 * 1, none⟩)) H1_) H1_).trans (val_of ((aload_at gH1_A).trans (aloadC_cellB (n := 1) (by kernel_rfl) (by kernel_rfl) c7)))) ?_
  refine aops_go 1 60 (by kernel_rfl) ?_
  refine aops_see 44 (.int .u32 x7) (see_int (x := IntKind.u32.wrap x7) (by kernel_rfl) (wu32 rfl (by omega) (by omega))) ?_
  refine aops_go 1 60 (by kernel_rfl) ?_
  refine aops_see 45 (.int .u32 (x7 * 16777216)) (see_int (x := (IntKind.u32.wrap (x7 * 16777216))) (by kernel_rfl) (wu32 rfl (by omega) (by omega))) ?_
  refine aops_go 1 60 (by kernel_rfl) ?_
  refine aops_see 46 (.int .u32 (((x4 + (x5 * 256)) + (x6 * 65536)) + (x7 * 16777216))) (see_int (x := (IntKind.u32.wrap (((BitVec.ofInt 32 ((x4 + (x5 * 256)) + (x6 * 65536)) ||| BitVec.ofInt 32 (x7 * 16777216)).toNat : Nat) : Int))) (by kernel_rfl) (or_add2 ((x4 + (x5 * 256)) + (x6 * 65536)) (x7 * 16777216) 24 (by omega) (by omega) (by omega) (by omega) (by omega) (by omega) (by omega))) ?_
  refine aops_go 1 60 (by kernel_rfl) ?_
  obtain ⟨H2_, hH2_⟩ : ∃ x : Heap, x = H1_.push ⟨[Value.int .i64 0, .int .i64 0, .int .i64 0, .int .i64 0, .int .u32 0], 24, false⟩ := ⟨_, rfl⟩
  have nH2_ : H2_.n = H1_.n + 1 := by rw [hH2_]; rfl
  refine aops_val 4 (.pointer (some ⟨H1_.n, 0, none⟩)) H2_ (by kernel_rfl) (by kernel_rfl) (by kernel_rfl) ((by kernel_rfl : _ = some (Res.val (.pointer (some ⟨H1_.n, 0, none⟩)), H1_.push ⟨[Value.int .i64 0, .int .i64 0, .int .i64 0, .int .i64 0, .int .u32 0], 24, false⟩)).trans (by rw [← hH2_])) ?_
  have gH2_H1__n : H2_.get (H1_.n) = some ⟨[Value.int .i64 0, .int .i64 0, .int .i64 0, .int .i64 0, .int .u32 0], 24, false⟩ := by rw [hH2_]; exact (Heap.get_push _ _ _).trans (if_pos rfl)
  obtain ⟨H3_, hH3_⟩ : ∃ x : Heap, x = H2_.put (H1_.n) ⟨[Value.int .i64 x0, .int .i64 x1, .int .i64 x2, .int .i64 x3, .int .u32 (((x4 + (x5 * 256)) + (x6 * 65536)) + (x7 * 16777216))], 24, false⟩ := ⟨_, rfl⟩
  have nH3_ : H3_.n = H2_.n := by rw [hH3_]; rfl
  refine aops_skip H3_ (by kernel_rfl) (by kernel_rfl) (by kernel_rfl) ((by kernel_rfl : _ = skp (astore T14 24 (.pointer (some ⟨H1_.n, 0, none⟩)) (.agg #[.int .i64 x0, .int .i64 x1, .int .i64 x2, .int .i64 x3, .int .u32 (((x4 + (x5 * 256)) + (x6 * 65536)) + (x7 * 16777216))]) H2_)).trans (by rw [astore_to gH2_H1__n (by kernel_rfl), ← hH3_]; rfl)) ?_
  refine aops_end (by kernel_rfl) (then_normal ?_)
  refine aw_code f20bccc_eq ?_
  refine aw_then ?_
  refine aw_code f20bccca_eq ?_
  refine aw_then ?_
  refine aw_code f20bcccaa_eq ?_
  refine aw_reg ?_
  have gH3_H1__n : H3_.get (H1_.n) = some ⟨[Value.int .i64 x0, .int .i64 x1, .int .i64 x2, .int .i64 x3, .int .u32 (((x4 + (x5 * 256)) + (x6 * 65536)) + (x7 * 16777216))], 24, false⟩ := by rw [hH3_]; exact (Heap.get_put _ _ _ _).trans (if_pos rfl)
  refine aops_val 48 (.agg #[.int .i64 x0, .int .i64 x1, .int .i64 x2, .int .i64 x3, .int .u32 (((x4 + (x5 * 256)) + (x6 * 65536)) + (x7 * 16777216))]) H3_ (by kernel_rfl) (by kernel_rfl) (by kernel_rfl) ((by kernel_rfl : _ = val (aload T14 24 (.pointer (some ⟨H1_.n, 0, none⟩)) H3_) H3_).trans (val_of ((aload_at gH3_H1__n).trans (by kernel_rfl)))) ?_
  refine aops_ask 49 (.bool false) 19 #[.agg #[.int .i64 x0, .int .i64 x1, .int .i64 x2, .int .i64 x3, .int .u32 (((x4 + (x5 * 256)) + (x6 * 65536)) + (x7 * 16777216))]] (by kernel_rfl) (by kernel_rfl) (by kernel_rfl) (by kernel_rfl) (show some (Value.bool (rightV x0 x1 x2 x3 (((x4 + (x5 * 256)) + (x6 * 65536)) + (x7 * 16777216)))) = _ by rw [hr]) ?_
  refine aops_go 1 60 (by kernel_rfl) ?_
  refine aops_end (by kernel_rfl) (then_normal ?_)
  refine aw_code f20bcccac_eq ?_
  refine aw_cond (t := true) (by kernel_rfl) ?_
  refine aw_code f20bcccaca_eq ?_
  refine aw_then ?_
  refine aw_code f20bcccacaa_eq ?_
  refine aw_reg ?_
  refine aops_go 1 60 (by kernel_rfl) ?_
  have gH3_H_n : H3_.get (H.n) = some ⟨[Value.int .i64 0, .int .i64 0, .int .i64 0, .int .i64 0, .int .u32 0], 24, false⟩ := by rw [hH3_, Heap.get_put, if_neg (by omega)]; rw [hH2_, Heap.get_push, if_neg (by omega)]; rw [hH1_]; exact (Heap.get_push _ _ _).trans (if_pos rfl)
  obtain ⟨H4_, hH4_⟩ : ∃ x : Heap, x = H3_.put (H.n) ⟨[Value.int .i64 0, .int .i64 0, .int .i64 0, .int .i64 0, .int .u32 0], 24, false⟩ := ⟨_, rfl⟩
  have nH4_ : H4_.n = H3_.n := by rw [hH4_]; rfl
  refine aops_skip H4_ (by kernel_rfl) (by kernel_rfl) (by kernel_rfl) ((by kernel_rfl : _ = skp (astore T14 24 (.pointer (some ⟨H.n, 0, none⟩)) (.agg #[.int .i64 0, .int .i64 0, .int .i64 0, .int .i64 0, .int .u32 0]) H3_)).trans (by rw [astore_to gH3_H_n (by kernel_rfl), ← hH4_]; rfl)) ?_
  refine aops_go 1 60 (by kernel_rfl) ?_
  refine aops_end (by kernel_rfl) (then_normal ?_)
  have gH4_H_n : H4_.get (H.n) = some ⟨[Value.int .i64 0, .int .i64 0, .int .i64 0, .int .i64 0, .int .u32 0], 24, false⟩ := by rw [hH4_]; exact (Heap.get_put _ _ _ _).trans (if_pos rfl)
  refine aw_ret (then_ret (bodyQ_ret_to (.tuple #[.agg #[.int .i64 0, .int .i64 0, .int .i64 0, .int .i64 0, .int .u32 0], .int .i64 12]) H4_ (ares_cell1 2 24 3 (.pointer (some ⟨H.n, 0, none⟩)) H4_ (by kernel_rfl) (by kernel_rfl) (by kernel_rfl) (by kernel_rfl) ((aload_at gH4_H_n).trans (by kernel_rfl))) (by kernel_rfl) ?_))
  exact ⟨rfl, ⟨by omega, fun b hb => by rw [hH4_, Heap.get_put, if_neg (by omega), hH3_, Heap.get_put, if_neg (by omega), hH2_, Heap.get_push, if_neg (by omega), hH1_, Heap.get_push, if_neg (by omega)]⟩⟩
theorem dec_any {H : Heap} {v : Value} {l : List Int} (h : Byts H v l) : ACall Tryd.prog T14 20 #[v] H fun r H' => r = decR (readL l) ∧ Up H.n H H' := by
  rcases h.at_ with ⟨cap, rfl, rfl⟩ | ⟨A, off, cap, cells, e, ro, rfl, gA, hA, hb⟩
  · exact dec_nil
  · by_cases h8 : l.length = 8
    · match l, h8 with
      | [x0, x1, x2, x3, x4, x5, x6, x7], _ =>
        obtain ⟨c0, l0, m0⟩ := hb 0 (by simp)
        obtain ⟨c1, l1, m1⟩ := hb 1 (by simp)
        obtain ⟨c2, l2, m2⟩ := hb 2 (by simp)
        obtain ⟨c3, l3, m3⟩ := hb 3 (by simp)
        obtain ⟨c4, l4, m4⟩ := hb 4 (by simp)
        obtain ⟨c5, l5, m5⟩ := hb 5 (by simp)
        obtain ⟨c6, l6, m6⟩ := hb 6 (by simp)
        obtain ⟨c7, l7, m7⟩ := hb 7 (by simp)
        simp only [List.getElem_cons_zero, List.getElem_cons_succ] at c0 l0 m0 c1 l1 m1 c2 l2 m2 c3 l3 m3 c4 l4 m4 c5 l5 m5 c6 l6 m6 c7 l7 m7
        cases hr : rightV x0 x1 x2 x3 (((x4 + (x5 * 256)) + (x6 * 65536)) + (x7 * 16777216))
        · have e : readL [x0, x1, x2, x3, x4, x5, x6, x7] = ((0, 0, 0, 0, 0), 12) := by simp only [readL, num4, hr, cond_false]
          rw [e]; exact dec_no c0 l0 m0 c1 l1 m1 c2 l2 m2 c3 l3 m3 c4 l4 m4 c5 l5 m5 c6 l6 m6 c7 l7 m7 gA hA hr
        · have e : readL [x0, x1, x2, x3, x4, x5, x6, x7] = ((x0, x1, x2, x3, (((x4 + (x5 * 256)) + (x6 * 65536)) + (x7 * 16777216))), 0) := by simp only [readL, num4, hr, cond_true]
          rw [e]; exact dec_ok c0 l0 m0 c1 l1 m1 c2 l2 m2 c3 l3 m3 c4 l4 m4 c5 l5 m5 c6 l6 m6 c7 l7 m7 gA hA hr
    · rw [readL_ne h8]; exact dec_ne h8
noncomputable def f21b : Code := Tryd.f21.body.getD .skip
noncomputable def f21ba : Code := cl f21b
noncomputable def f21bao : Array Oper := opsOf f21ba
noncomputable def f21bc : Code := cr f21b
noncomputable def f21bca : Code := cl f21bc
noncomputable def f21bcaa : Code := cl f21bca
noncomputable def f21bcaao : Array Oper := opsOf f21bcaa
noncomputable def f21bcac : Code := cr f21bca
noncomputable def f21bcaca : Code := cl f21bcac
noncomputable def f21bcacaa : Code := cl f21bcaca
noncomputable def f21bcacaao : Array Oper := opsOf f21bcacaa
noncomputable def f21bcc : Code := cr f21bc
noncomputable def f21bcca : Code := cl f21bcc
noncomputable def f21bccao : Array Oper := opsOf f21bcca
noncomputable def f21bccc : Code := cr f21bcc
noncomputable def f21bccca : Code := cl f21bccc
noncomputable def f21bcccaa : Code := cl f21bccca
noncomputable def f21bcccaao : Array Oper := opsOf f21bcccaa
noncomputable def f21bcccac : Code := cr f21bccca
noncomputable def f21bcccaca : Code := cl f21bcccac
noncomputable def f21bcccacaa : Code := cl f21bcccaca
noncomputable def f21bcccacaao : Array Oper := opsOf f21bcccacaa
noncomputable def f21bcccc : Code := cr f21bccc
noncomputable def f21bcccca : Code := cl f21bcccc
noncomputable def f21bccccao : Array Oper := opsOf f21bcccca
theorem f21ba_eq : f21ba = .region 0 f21bao false := by kernel_rfl
theorem f21bcaa_eq : f21bcaa = .region 1 f21bcaao false := by kernel_rfl
theorem f21bcacaa_eq : f21bcacaa = .region 2 f21bcacaao false := by kernel_rfl
theorem f21bcaca_eq : f21bcaca = .seq f21bcacaa .ret := by kernel_rfl
theorem f21bcac_eq : f21bcac = .cond (cop f21bcac) f21bcaca .skip := by kernel_rfl
theorem f21bca_eq : f21bca = .seq f21bcaa f21bcac := by kernel_rfl
theorem f21bcca_eq : f21bcca = .region 3 f21bccao true := by kernel_rfl
theorem f21bcccaa_eq : f21bcccaa = .region 4 f21bcccaao false := by kernel_rfl
theorem f21bcccacaa_eq : f21bcccacaa = .region 5 f21bcccacaao false := by kernel_rfl
theorem f21bcccaca_eq : f21bcccaca = .seq f21bcccacaa .ret := by kernel_rfl
theorem f21bcccac_eq : f21bcccac = .cond (cop f21bcccac) f21bcccaca .skip := by kernel_rfl
theorem f21bccca_eq : f21bccca = .seq f21bcccaa f21bcccac := by kernel_rfl
theorem f21bcccca_eq : f21bcccca = .region 6 f21bccccao false := by kernel_rfl
theorem f21bcccc_eq : f21bcccc = .seq f21bcccca .ret := by kernel_rfl
theorem f21bccc_eq : f21bccc = .seq f21bccca f21bcccc := by kernel_rfl
theorem f21bcc_eq : f21bcc = .seq f21bcca f21bccc := by kernel_rfl
theorem f21bc_eq : f21bc = .seq f21bca f21bcc := by kernel_rfl
theorem f21b_eq : f21b = .seq f21ba f21bc := by kernel_rfl
theorem f21_body : Tryd.f21.body = some f21b := by kernel_rfl
theorem f21_fn : T14.fn 21 = some Tryd.f21 := by kernel_rfl
theorem rdec_nil {H : Heap} {pt : Option Addr} {cap : Nat} : ACall Tryd.prog T14 21 #[.slice pt 0 cap] H fun r H' => r = rdecR ((0, 0, 0, 0, 0), 10) ∧ Up H.n H H' := by
  refine acall_of' 53 (initTm 0 #[(.slice pt 0 cap)]) rfl f21_fn f21_body rfl rfl ?_
  refine aw_code f21b_eq ?_
  refine aw_then ?_
  refine aw_code f21ba_eq ?_
  refine aw_reg ?_
  obtain ⟨H1_, hH1_⟩ : ∃ x : Heap, x = H.push ⟨[Value.int .i64 0, .int .i64 0, .int .i64 0, .int .i64 0, .int .u32 0], 24, false⟩ := ⟨_, rfl⟩
  have nH1_ : H1_.n = H.n + 1 := by rw [hH1_]; rfl
  refine aops_val 2 (.pointer (some ⟨H.n, 0, none⟩)) H1_ (by kernel_rfl) (by kernel_rfl) (by kernel_rfl) ((by kernel_rfl : _ = some (Res.val (.pointer (some ⟨H.n, 0, none⟩)), H.push ⟨[Value.int .i64 0, .int .i64 0, .int .i64 0, .int .i64 0, .int .u32 0], 24, false⟩)).trans (by rw [← hH1_])) ?_
  refine aops_go 1 60 (by kernel_rfl) ?_
  refine aops_end (by kernel_rfl) (then_normal ?_)
  refine aw_code f21bc_eq ?_
  refine aw_then ?_
  refine aw_code f21bca_eq ?_
  refine aw_then ?_
  refine aw_code f21bcaa_eq ?_
  refine aw_reg ?_
  refine aops_go 3 60 (by kernel_rfl) ?_
  refine aops_end (by kernel_rfl) (then_normal ?_)
  refine aw_code f21bcac_eq ?_
  refine aw_cond (t := true) (by kernel_rfl) ?_
  refine aw_code f21bcaca_eq ?_
  refine aw_then ?_
  refine aw_code f21bcacaa_eq ?_
  refine aw_reg ?_
  refine aops_go 1 60 (by kernel_rfl) ?_
  have gH1_H_n : H1_.get (H.n) = some ⟨[Value.int .i64 0, .int .i64 0, .int .i64 0, .int .i64 0, .int .u32 0], 24, false⟩ := by rw [hH1_]; exact (Heap.get_push _ _ _).trans (if_pos rfl)
  obtain ⟨H2_, hH2_⟩ : ∃ x : Heap, x = H1_.put (H.n) ⟨[Value.int .i64 0, .int .i64 0, .int .i64 0, .int .i64 0, .int .u32 0], 24, false⟩ := ⟨_, rfl⟩
  have nH2_ : H2_.n = H1_.n := by rw [hH2_]; rfl
  refine aops_skip H2_ (by kernel_rfl) (by kernel_rfl) (by kernel_rfl) ((by kernel_rfl : _ = skp (astore T14 24 (.pointer (some ⟨H.n, 0, none⟩)) (.agg #[.int .i64 0, .int .i64 0, .int .i64 0, .int .i64 0, .int .u32 0]) H1_)).trans (by rw [astore_to gH1_H_n (by kernel_rfl), ← hH2_]; rfl)) ?_
  refine aops_go 1 60 (by kernel_rfl) ?_
  refine aops_end (by kernel_rfl) (then_normal ?_)
  have gH2_H_n : H2_.get (H.n) = some ⟨[Value.int .i64 0, .int .i64 0, .int .i64 0, .int .i64 0, .int .u32 0], 24, false⟩ := by rw [hH2_]; exact (Heap.get_put _ _ _ _).trans (if_pos rfl)
  refine aw_ret (then_ret (bodyQ_ret_to (.tuple #[.agg #[.int .i64 0, .int .i64 0, .int .i64 0, .int .i64 0, .int .u32 0], .bool false]) H2_ (ares_cell1 2 24 3 (.pointer (some ⟨H.n, 0, none⟩)) H2_ (by kernel_rfl) (by kernel_rfl) (by kernel_rfl) (by kernel_rfl) ((aload_at gH2_H_n).trans (by kernel_rfl))) (by kernel_rfl) ?_))
  exact ⟨rfl, ⟨by omega, fun b hb => by rw [hH2_, Heap.get_put, if_neg (by omega), hH1_, Heap.get_push, if_neg (by omega)]⟩⟩
theorem rdec_ne {H : Heap} {A off n cap : Nat} (hn : n ≠ 8) : ACall Tryd.prog T14 21 #[.slice (some ⟨A, off, none⟩) n cap] H fun r H' => r = rdecR ((0, 0, 0, 0, 0), 10) ∧ Up H.n H H' := by
  refine acall_of' 53 (initTm 0 #[.slice (some ⟨A, off, none⟩) n cap]) rfl f21_fn f21_body rfl rfl ?_
  refine aw_code f21b_eq ?_
  refine aw_then ?_
  refine aw_code f21ba_eq ?_
  refine aw_reg ?_
  obtain ⟨H1_, hH1_⟩ : ∃ x : Heap, x = H.push ⟨[Value.int .i64 0, .int .i64 0, .int .i64 0, .int .i64 0, .int .u32 0], 24, false⟩ := ⟨_, rfl⟩
  have nH1_ : H1_.n = H.n + 1 := by rw [hH1_]; rfl
  refine aops_val 2 (.pointer (some ⟨H.n, 0, none⟩)) H1_ (by kernel_rfl) (by kernel_rfl) (by kernel_rfl) ((by kernel_rfl : _ = some (Res.val (.pointer (some ⟨H.n, 0, none⟩)), H.push ⟨[Value.int .i64 0, .int .i64 0, .int .i64 0, .int .i64 0, .int .u32 0], 24, false⟩)).trans (by rw [← hH1_])) ?_
  refine aops_go 1 60 (by kernel_rfl) ?_
  refine aops_end (by kernel_rfl) (then_normal ?_)
  refine aw_code f21bc_eq ?_
  refine aw_then ?_
  refine aw_code f21bca_eq ?_
  refine aw_then ?_
  refine aw_code f21bcaa_eq ?_
  refine aw_reg ?_
  refine aops_go 3 60 (by kernel_rfl) ?_
  refine aops_end (by kernel_rfl) (then_normal ?_)
  refine aw_code f21bcac_eq ?_
  refine aw_cond (t := true) (see_bool (by kernel_rfl) ((by simp; omega) : ((((n : Nat) : Int) != 8)) = true)) ?_
  refine aw_code f21bcaca_eq ?_
  refine aw_then ?_
  refine aw_code f21bcacaa_eq ?_
  refine aw_reg ?_
  refine aops_go 1 60 (by kernel_rfl) ?_
  have gH1_H_n : H1_.get (H.n) = some ⟨[Value.int .i64 0, .int .i64 0, .int .i64 0, .int .i64 0, .int .u32 0], 24, false⟩ := by rw [hH1_]; exact (Heap.get_push _ _ _).trans (if_pos rfl)
  obtain ⟨H2_, hH2_⟩ : ∃ x : Heap, x = H1_.put (H.n) ⟨[Value.int .i64 0, .int .i64 0, .int .i64 0, .int .i64 0, .int .u32 0], 24, false⟩ := ⟨_, rfl⟩
  have nH2_ : H2_.n = H1_.n := by rw [hH2_]; rfl
  refine aops_skip H2_ (by kernel_rfl) (by kernel_rfl) (by kernel_rfl) ((by kernel_rfl : _ = skp (astore T14 24 (.pointer (some ⟨H.n, 0, none⟩)) (.agg #[.int .i64 0, .int .i64 0, .int .i64 0, .int .i64 0, .int .u32 0]) H1_)).trans (by rw [astore_to gH1_H_n (by kernel_rfl), ← hH2_]; rfl)) ?_
  refine aops_go 1 60 (by kernel_rfl) ?_
  refine aops_end (by kernel_rfl) (then_normal ?_)
  have gH2_H_n : H2_.get (H.n) = some ⟨[Value.int .i64 0, .int .i64 0, .int .i64 0, .int .i64 0, .int .u32 0], 24, false⟩ := by rw [hH2_]; exact (Heap.get_put _ _ _ _).trans (if_pos rfl)
  refine aw_ret (then_ret (bodyQ_ret_to (.tuple #[.agg #[.int .i64 0, .int .i64 0, .int .i64 0, .int .i64 0, .int .u32 0], .bool false]) H2_ (ares_cell1 2 24 3 (.pointer (some ⟨H.n, 0, none⟩)) H2_ (by kernel_rfl) (by kernel_rfl) (by kernel_rfl) (by kernel_rfl) ((aload_at gH2_H_n).trans (by kernel_rfl))) (by kernel_rfl) ?_))
  exact ⟨rfl, ⟨by omega, fun b hb => by rw [hH2_, Heap.get_put, if_neg (by omega), hH1_, Heap.get_push, if_neg (by omega)]⟩⟩
set_option maxHeartbeats 1000000 in
theorem rdec_ok {H : Heap} {A off cap : Nat} {cells : List Value} {e : TypeId} {ro : Bool} {x0 : Int} (c0 : cells[off + 0 * 1]? = some (.int .u8 x0)) (l0 : 0 ≤ x0) (m0 : x0 < 256) {x1 : Int} (c1 : cells[off + 1 * 1]? = some (.int .u8 x1)) (l1 : 0 ≤ x1) (m1 : x1 < 256) {x2 : Int} (c2 : cells[off + 2 * 1]? = some (.int .u8 x2)) (l2 : 0 ≤ x2) (m2 : x2 < 256) {x3 : Int} (c3 : cells[off + 3 * 1]? = some (.int .u8 x3)) (l3 : 0 ≤ x3) (m3 : x3 < 256) {x4 : Int} (c4 : cells[off + 4 * 1]? = some (.int .u8 x4)) (l4 : 0 ≤ x4) (m4 : x4 < 256) {x5 : Int} (c5 : cells[off + 5 * 1]? = some (.int .u8 x5)) (l5 : 0 ≤ x5) (m5 : x5 < 256) {x6 : Int} (c6 : cells[off + 6 * 1]? = some (.int .u8 x6)) (l6 : 0 ≤ x6) (m6 : x6 < 256) {x7 : Int} (c7 : cells[off + 7 * 1]? = some (.int .u8 x7)) (l7 : 0 ≤ x7) (m7 : x7 < 256) (gA : H.get A = some ⟨cells, e, ro⟩) (hA : A < H.n) (hr : rightV x0 x1 x2 x3 (((x4 + (x5 * 256)) + (x6 * 65536)) + (x7 * 16777216)) = true) : ACall Tryd.prog T14 21 #[.slice (some ⟨A, off, none⟩) 8 cap] H fun r H' => r = rdecR ((x0, x1, x2, x3, (((x4 + (x5 * 256)) + (x6 * 65536)) + (x7 * 16777216))), 0) ∧ Up H.n H H' := by
  refine acall_of' 53 (initTm 0 #[.slice (some ⟨A, off, none⟩) 8 cap]) rfl f21_fn f21_body rfl rfl ?_
  refine aw_code f21b_eq ?_
  refine aw_then ?_
  refine aw_code f21ba_eq ?_
  refine aw_reg ?_
  obtain ⟨H1_, hH1_⟩ : ∃ x : Heap, x = H.push ⟨[Value.int .i64 0, .int .i64 0, .int .i64 0, .int .i64 0, .int .u32 0], 24, false⟩ := ⟨_, rfl⟩
  have nH1_ : H1_.n = H.n + 1 := by rw [hH1_]; rfl
  refine aops_val 2 (.pointer (some ⟨H.n, 0, none⟩)) H1_ (by kernel_rfl) (by kernel_rfl) (by kernel_rfl) ((by kernel_rfl : _ = some (Res.val (.pointer (some ⟨H.n, 0, none⟩)), H.push ⟨[Value.int .i64 0, .int .i64 0, .int .i64 0, .int .i64 0, .int .u32 0], 24, false⟩)).trans (by rw [← hH1_])) ?_
  refine aops_go 1 60 (by kernel_rfl) ?_
  refine aops_end (by kernel_rfl) (then_normal ?_)
  refine aw_code f21bc_eq ?_
  refine aw_then ?_
  refine aw_code f21bca_eq ?_
  refine aw_then ?_
  refine aw_code f21bcaa_eq ?_
  refine aw_reg ?_
  refine aops_go 3 60 (by kernel_rfl) ?_
  refine aops_end (by kernel_rfl) (then_normal ?_)
  refine aw_code f21bcac_eq ?_
  refine aw_cond (t := false) (by kernel_rfl) ?_
  refine aw_skip (then_normal ?_)
  refine aw_code f21bcc_eq ?_
  refine aw_then ?_
  refine aw_code f21bcca_eq ?_
  refine aw_draw0w (by kernel_rfl) ?_
  refine aops_go 1 60 (by kernel_rfl) ?_
  refine aops_val 10 (.pointer (some ⟨A, off + 0 * 1, none⟩)) H1_ (by kernel_rfl) (by kernel_rfl) (by kernel_rfl) (by kernel_rfl) ?_
  have gH1_A : H1_.get (A) = some ⟨cells, e, ro⟩ := by rw [hH1_, Heap.get_push, if_neg (by omega)]; exact gA
  refine aops_val 11 (.int .u8 x0) H1_ (by kernel_rfl) (by kernel_rfl) (by kernel_rfl) ((by kernel_rfl : _ = val (aload T14 5 (.pointer (some ⟨A, off + 0 * 1, none⟩)) H1_) H1_).trans (val_of ((aload_at gH1_A).trans (aloadC_cellB (n := 1) (by kernel_rfl) (by kernel_rfl) c0)))) ?_
  refine aops_go 1 60 (by kernel_rfl) ?_
  refine aops_see 12 (.int .i64 x0) (see_int (x := IntKind.i64.wrap x0) (by kernel_rfl) (w64 rfl (by omega) (by omega))) ?_
  refine aops_go 1 60 (by kernel_rfl) ?_
  refine aops_val 14 (.pointer (some ⟨A, off + 1 * 1, none⟩)) H1_ (by kernel_rfl) (by kernel_rfl) (by kernel_rfl) (by kernel_rfl) ?_
  refine aops_val 15 (.int .u8 x1) H1_ (by kernel_rfl) (by kernel_rfl) (by kernel_rfl) ((by kernel_rfl : _ = val (aload T14 5 (.pointer (some ⟨A, off + 1 * 1, none⟩)) H1_) H1_).trans (val_of ((aload_at gH1_A).trans (aloadC_cellB (n := 1) (by kernel_rfl) (by kernel_rfl) c1)))) ?_
  refine aops_go 1 60 (by kernel_rfl) ?_
  refine aops_see 16 (.int .i64 x1) (see_int (x := IntKind.i64.wrap x1) (by kernel_rfl) (w64 rfl (by omega) (by omega))) ?_
  refine aops_go 1 60 (by kernel_rfl) ?_
  refine aops_val 18 (.pointer (some ⟨A, off + 2 * 1, none⟩)) H1_ (by kernel_rfl) (by kernel_rfl) (by kernel_rfl) (by kernel_rfl) ?_
  refine aops_val 19 (.int .u8 x2) H1_ (by kernel_rfl) (by kernel_rfl) (by kernel_rfl) ((by kernel_rfl : _ = val (aload T14 5 (.pointer (some ⟨A, off + 2 * 1, none⟩)) H1_) H1_).trans (val_of ((aload_at gH1_A).trans (aloadC_cellB (n := 1) (by kernel_rfl) (by kernel_rfl) c2)))) ?_
  refine aops_go 1 60 (by kernel_rfl) ?_
  refine aops_see 20 (.int .i64 x2) (see_int (x := IntKind.i64.wrap x2) (by kernel_rfl) (w64 rfl (by omega) (by omega))) ?_
  refine aops_go 1 60 (by kernel_rfl) ?_
  refine aops_val 22 (.pointer (some ⟨A, off + 3 * 1, none⟩)) H1_ (by kernel_rfl) (by kernel_rfl) (by kernel_rfl) (by kernel_rfl) ?_
  refine aops_val 23 (.int .u8 x3) H1_ (by kernel_rfl) (by kernel_rfl) (by kernel_rfl) ((by kernel_rfl : _ = val (aload T14 5 (.pointer (some ⟨A, off + 3 * 1, none⟩)) H1_) H1_).trans (val_of ((aload_at gH1_A).trans (aloadC_cellB (n := 1) (by kernel_rfl) (by kernel_rfl) c3)))) ?_
  refine aops_go 1 60 (by kernel_rfl) ?_
  refine aops_see 24 (.int .i64 x3) (see_int (x := IntKind.i64.wrap x3) (by kernel_rfl) (w64 rfl (by omega) (by omega))) ?_
  refine aops_go 1 60 (by kernel_rfl) ?_
  refine aops_val 26 (.pointer (some ⟨A, off + 4 * 1, none⟩)) H1_ (by kernel_rfl) (by kernel_rfl) (by kernel_rfl) (by kernel_rfl) ?_
  refine aops_val 27 (.int .u8 x4) H1_ (by kernel_rfl) (by kernel_rfl) (by kernel_rfl) ((by kernel_rfl : _ = val (aload T14 5 (.pointer (some ⟨A, off + 4 * 1, none⟩)) H1_) H1_).trans (val_of ((aload_at gH1_A).trans (aloadC_cellB (n := 1) (by kernel_rfl) (by kernel_rfl) c4)))) ?_
  refine aops_go 1 60 (by kernel_rfl) ?_
  refine aops_see 28 (.int .u32 x4) (see_int (x := IntKind.u32.wrap x4) (by kernel_rfl) (wu32 rfl (by omega) (by omega))) ?_
  refine aops_go 1 60 (by kernel_rfl) ?_
  refine aops_val 30 (.pointer (some ⟨A, off + 5 * 1, none⟩)) H1_ (by kernel_rfl) (by kernel_rfl) (by kernel_rfl) (by kernel_rfl) ?_
  refine aops_val 31 (.int .u8 x5) H1_ (by kernel_rfl) (by kernel_rfl) (by kernel_rfl) ((by kernel_rfl : _ = val (aload T14 5 (.pointer (some ⟨A, off + 5 * 1, none⟩)) H1_) H1_).trans (val_of ((aload_at gH1_A).trans (aloadC_cellB (n := 1) (by kernel_rfl) (by kernel_rfl) c5)))) ?_
  refine aops_go 1 60 (by kernel_rfl) ?_
  refine aops_see 32 (.int .u32 x5) (see_int (x := IntKind.u32.wrap x5) (by kernel_rfl) (wu32 rfl (by omega) (by omega))) ?_
  refine aops_go 1 60 (by kernel_rfl) ?_
  refine aops_see 33 (.int .u32 (x5 * 256)) (see_int (x := (IntKind.u32.wrap (x5 * 256))) (by kernel_rfl) (wu32 rfl (by omega) (by omega))) ?_
  refine aops_go 1 60 (by kernel_rfl) ?_
  refine aops_see 34 (.int .u32 (x4 + (x5 * 256))) (see_int (x := (IntKind.u32.wrap (((BitVec.ofInt 32 x4 ||| BitVec.ofInt 32 (x5 * 256)).toNat : Nat) : Int))) (by kernel_rfl) (or_add2 x4 (x5 * 256) 8 (by omega) (by omega) (by omega) (by omega) (by omega) (by omega) (by omega))) ?_
  refine aops_go 1 60 (by kernel_rfl) ?_
  refine aops_val 36 (.pointer (some ⟨A, off + 6 * 1, none⟩)) H1_ (by kernel_rfl) (by kernel_rfl) (by kernel_rfl) (by kernel_rfl) ?_
  refine aops_val 37 (.int .u8 x6) H1_ (by kernel_rfl) (by kernel_rfl) (by kernel_rfl) ((by kernel_rfl : _ = val (aload T14 5 (.pointer (some ⟨A, off + 6 * 1, none⟩)) H1_) H1_).trans (val_of ((aload_at gH1_A).trans (aloadC_cellB (n := 1) (by kernel_rfl) (by kernel_rfl) c6)))) ?_
  refine aops_go 1 60 (by kernel_rfl) ?_
  refine aops_see 38 (.int .u32 x6) (see_int (x := IntKind.u32.wrap x6) (by kernel_rfl) (wu32 rfl (by omega) (by omega))) ?_
  refine aops_go 1 60 (by kernel_rfl) ?_
  refine aops_see 39 (.int .u32 (x6 * 65536)) (see_int (x := (IntKind.u32.wrap (x6 * 65536))) (by kernel_rfl) (wu32 rfl (by omega) (by omega))) ?_
  refine aops_go 1 60 (by kernel_rfl) ?_
  refine aops_see 40 (.int .u32 ((x4 + (x5 * 256)) + (x6 * 65536))) (see_int (x := (IntKind.u32.wrap (((BitVec.ofInt 32 (x4 + (x5 * 256)) ||| BitVec.ofInt 32 (x6 * 65536)).toNat : Nat) : Int))) (by kernel_rfl) (or_add2 (x4 + (x5 * 256)) (x6 * 65536) 16 (by omega) (by omega) (by omega) (by omega) (by omega) (by omega) (by omega))) ?_
  refine aops_go 1 60 (by kernel_rfl) ?_
  refine aops_val 42 (.pointer (some ⟨A, off + 7 * 1, none⟩)) H1_ (by kernel_rfl) (by kernel_rfl) (by kernel_rfl) (by kernel_rfl) ?_
  refine aops_val 43 (.int .u8 x7) H1_ (by kernel_rfl) (by kernel_rfl) (by kernel_rfl) ((by kernel_rfl : _ = val (aload T14 5 (.pointer (some ⟨A, off + 7 * 1, none⟩)) H1_) H1_).trans (val_of ((aload_at gH1_A).trans (aloadC_cellB (n := 1) (by kernel_rfl) (by kernel_rfl) c7)))) ?_
  refine aops_go 1 60 (by kernel_rfl) ?_
  refine aops_see 44 (.int .u32 x7) (see_int (x := IntKind.u32.wrap x7) (by kernel_rfl) (wu32 rfl (by omega) (by omega))) ?_
  refine aops_go 1 60 (by kernel_rfl) ?_
  refine aops_see 45 (.int .u32 (x7 * 16777216)) (see_int (x := (IntKind.u32.wrap (x7 * 16777216))) (by kernel_rfl) (wu32 rfl (by omega) (by omega))) ?_
  refine aops_go 1 60 (by kernel_rfl) ?_
  refine aops_see 46 (.int .u32 (((x4 + (x5 * 256)) + (x6 * 65536)) + (x7 * 16777216))) (see_int (x := (IntKind.u32.wrap (((BitVec.ofInt 32 ((x4 + (x5 * 256)) + (x6 * 65536)) ||| BitVec.ofInt 32 (x7 * 16777216)).toNat : Nat) : Int))) (by kernel_rfl) (or_add2 ((x4 + (x5 * 256)) + (x6 * 65536)) (x7 * 16777216) 24 (by omega) (by omega) (by omega) (by omega) (by omega) (by omega) (by omega))) ?_
  refine aops_go 1 60 (by kernel_rfl) ?_
  obtain ⟨H2_, hH2_⟩ : ∃ x : Heap, x = H1_.push ⟨[Value.int .i64 0, .int .i64 0, .int .i64 0, .int .i64 0, .int .u32 0], 24, false⟩ := ⟨_, rfl⟩
  have nH2_ : H2_.n = H1_.n + 1 := by rw [hH2_]; rfl
  refine aops_val 4 (.pointer (some ⟨H1_.n, 0, none⟩)) H2_ (by kernel_rfl) (by kernel_rfl) (by kernel_rfl) ((by kernel_rfl : _ = some (Res.val (.pointer (some ⟨H1_.n, 0, none⟩)), H1_.push ⟨[Value.int .i64 0, .int .i64 0, .int .i64 0, .int .i64 0, .int .u32 0], 24, false⟩)).trans (by rw [← hH2_])) ?_
  have gH2_H1__n : H2_.get (H1_.n) = some ⟨[Value.int .i64 0, .int .i64 0, .int .i64 0, .int .i64 0, .int .u32 0], 24, false⟩ := by rw [hH2_]; exact (Heap.get_push _ _ _).trans (if_pos rfl)
  obtain ⟨H3_, hH3_⟩ : ∃ x : Heap, x = H2_.put (H1_.n) ⟨[Value.int .i64 x0, .int .i64 x1, .int .i64 x2, .int .i64 x3, .int .u32 (((x4 + (x5 * 256)) + (x6 * 65536)) + (x7 * 16777216))], 24, false⟩ := ⟨_, rfl⟩
  have nH3_ : H3_.n = H2_.n := by rw [hH3_]; rfl
  refine aops_skip H3_ (by kernel_rfl) (by kernel_rfl) (by kernel_rfl) ((by kernel_rfl : _ = skp (astore T14 24 (.pointer (some ⟨H1_.n, 0, none⟩)) (.agg #[.int .i64 x0, .int .i64 x1, .int .i64 x2, .int .i64 x3, .int .u32 (((x4 + (x5 * 256)) + (x6 * 65536)) + (x7 * 16777216))]) H2_)).trans (by rw [astore_to gH2_H1__n (by kernel_rfl), ← hH3_]; rfl)) ?_
  refine aops_end (by kernel_rfl) (then_normal ?_)
  refine aw_code f21bccc_eq ?_
  refine aw_then ?_
  refine aw_code f21bccca_eq ?_
  refine aw_then ?_
  refine aw_code f21bcccaa_eq ?_
  refine aw_reg ?_
  have gH3_H1__n : H3_.get (H1_.n) = some ⟨[Value.int .i64 x0, .int .i64 x1, .int .i64 x2, .int .i64 x3, .int .u32 (((x4 + (x5 * 256)) + (x6 * 65536)) + (x7 * 16777216))], 24, false⟩ := by rw [hH3_]; exact (Heap.get_put _ _ _ _).trans (if_pos rfl)
  refine aops_val 48 (.agg #[.int .i64 x0, .int .i64 x1, .int .i64 x2, .int .i64 x3, .int .u32 (((x4 + (x5 * 256)) + (x6 * 65536)) + (x7 * 16777216))]) H3_ (by kernel_rfl) (by kernel_rfl) (by kernel_rfl) ((by kernel_rfl : _ = val (aload T14 24 (.pointer (some ⟨H1_.n, 0, none⟩)) H3_) H3_).trans (val_of ((aload_at gH3_H1__n).trans (by kernel_rfl)))) ?_
  refine aops_ask 49 (.bool true) 16 #[.agg #[.int .i64 x0, .int .i64 x1, .int .i64 x2, .int .i64 x3, .int .u32 (((x4 + (x5 * 256)) + (x6 * 65536)) + (x7 * 16777216))]] (by kernel_rfl) (by kernel_rfl) (by kernel_rfl) (by kernel_rfl) (show some (Value.bool (rightV x0 x1 x2 x3 (((x4 + (x5 * 256)) + (x6 * 65536)) + (x7 * 16777216)))) = _ by rw [hr]) ?_
  refine aops_go 1 60 (by kernel_rfl) ?_
  refine aops_end (by kernel_rfl) (then_normal ?_)
  refine aw_code f21bcccac_eq ?_
  refine aw_cond (t := false) (by kernel_rfl) ?_
  refine aw_skip (then_normal ?_)
  refine aw_code f21bcccc_eq ?_
  refine aw_then ?_
  refine aw_code f21bcccca_eq ?_
  refine aw_reg ?_
  refine aops_val 52 (.agg #[.int .i64 x0, .int .i64 x1, .int .i64 x2, .int .i64 x3, .int .u32 (((x4 + (x5 * 256)) + (x6 * 65536)) + (x7 * 16777216))]) H3_ (by kernel_rfl) (by kernel_rfl) (by kernel_rfl) ((by kernel_rfl : _ = val (aload T14 24 (.pointer (some ⟨H1_.n, 0, none⟩)) H3_) H3_).trans (val_of ((aload_at gH3_H1__n).trans (by kernel_rfl)))) ?_
  have gH3_H_n : H3_.get (H.n) = some ⟨[Value.int .i64 0, .int .i64 0, .int .i64 0, .int .i64 0, .int .u32 0], 24, false⟩ := by rw [hH3_, Heap.get_put, if_neg (by omega)]; rw [hH2_, Heap.get_push, if_neg (by omega)]; rw [hH1_]; exact (Heap.get_push _ _ _).trans (if_pos rfl)
  obtain ⟨H4_, hH4_⟩ : ∃ x : Heap, x = H3_.put (H.n) ⟨[Value.int .i64 x0, .int .i64 x1, .int .i64 x2, .int .i64 x3, .int .u32 (((x4 + (x5 * 256)) + (x6 * 65536)) + (x7 * 16777216))], 24, false⟩ := ⟨_, rfl⟩
  have nH4_ : H4_.n = H3_.n := by rw [hH4_]; rfl
  refine aops_skip H4_ (by kernel_rfl) (by kernel_rfl) (by kernel_rfl) ((by kernel_rfl : _ = skp (astore T14 24 (.pointer (some ⟨H.n, 0, none⟩)) (.agg #[.int .i64 x0, .int .i64 x1, .int .i64 x2, .int .i64 x3, .int .u32 (((x4 + (x5 * 256)) + (x6 * 65536)) + (x7 * 16777216))]) H3_)).trans (by rw [astore_to gH3_H_n (by kernel_rfl), ← hH4_]; rfl)) ?_
  refine aops_go 1 60 (by kernel_rfl) ?_
  refine aops_end (by kernel_rfl) (then_normal ?_)
  have gH4_H_n : H4_.get (H.n) = some ⟨[Value.int .i64 x0, .int .i64 x1, .int .i64 x2, .int .i64 x3, .int .u32 (((x4 + (x5 * 256)) + (x6 * 65536)) + (x7 * 16777216))], 24, false⟩ := by rw [hH4_]; exact (Heap.get_put _ _ _ _).trans (if_pos rfl)
  refine aw_ret (bodyQ_ret_to (.tuple #[.agg #[.int .i64 x0, .int .i64 x1, .int .i64 x2, .int .i64 x3, .int .u32 (((x4 + (x5 * 256)) + (x6 * 65536)) + (x7 * 16777216))], .bool true]) H4_ (ares_cell1 2 24 3 (.pointer (some ⟨H.n, 0, none⟩)) H4_ (by kernel_rfl) (by kernel_rfl) (by kernel_rfl) (by kernel_rfl) ((aload_at gH4_H_n).trans (by kernel_rfl))) (by kernel_rfl) ?_)
  exact ⟨rfl, ⟨by omega, fun b hb => by rw [hH4_, Heap.get_put, if_neg (by omega), hH3_, Heap.get_put, if_neg (by omega), hH2_, Heap.get_push, if_neg (by omega), hH1_, Heap.get_push, if_neg (by omega)]⟩⟩
set_option maxHeartbeats 1000000 in
theorem rdec_no {H : Heap} {A off cap : Nat} {cells : List Value} {e : TypeId} {ro : Bool} {x0 : Int} (c0 : cells[off + 0 * 1]? = some (.int .u8 x0)) (l0 : 0 ≤ x0) (m0 : x0 < 256) {x1 : Int} (c1 : cells[off + 1 * 1]? = some (.int .u8 x1)) (l1 : 0 ≤ x1) (m1 : x1 < 256) {x2 : Int} (c2 : cells[off + 2 * 1]? = some (.int .u8 x2)) (l2 : 0 ≤ x2) (m2 : x2 < 256) {x3 : Int} (c3 : cells[off + 3 * 1]? = some (.int .u8 x3)) (l3 : 0 ≤ x3) (m3 : x3 < 256) {x4 : Int} (c4 : cells[off + 4 * 1]? = some (.int .u8 x4)) (l4 : 0 ≤ x4) (m4 : x4 < 256) {x5 : Int} (c5 : cells[off + 5 * 1]? = some (.int .u8 x5)) (l5 : 0 ≤ x5) (m5 : x5 < 256) {x6 : Int} (c6 : cells[off + 6 * 1]? = some (.int .u8 x6)) (l6 : 0 ≤ x6) (m6 : x6 < 256) {x7 : Int} (c7 : cells[off + 7 * 1]? = some (.int .u8 x7)) (l7 : 0 ≤ x7) (m7 : x7 < 256) (gA : H.get A = some ⟨cells, e, ro⟩) (hA : A < H.n) (hr : rightV x0 x1 x2 x3 (((x4 + (x5 * 256)) + (x6 * 65536)) + (x7 * 16777216)) = false) : ACall Tryd.prog T14 21 #[.slice (some ⟨A, off, none⟩) 8 cap] H fun r H' => r = rdecR ((0, 0, 0, 0, 0), 12) ∧ Up H.n H H' := by
  refine acall_of' 53 (initTm 0 #[.slice (some ⟨A, off, none⟩) 8 cap]) rfl f21_fn f21_body rfl rfl ?_
  refine aw_code f21b_eq ?_
  refine aw_then ?_
  refine aw_code f21ba_eq ?_
  refine aw_reg ?_
  obtain ⟨H1_, hH1_⟩ : ∃ x : Heap, x = H.push ⟨[Value.int .i64 0, .int .i64 0, .int .i64 0, .int .i64 0, .int .u32 0], 24, false⟩ := ⟨_, rfl⟩
  have nH1_ : H1_.n = H.n + 1 := by rw [hH1_]; rfl
  refine aops_val 2 (.pointer (some ⟨H.n, 0, none⟩)) H1_ (by kernel_rfl) (by kernel_rfl) (by kernel_rfl) ((by kernel_rfl : _ = some (Res.val (.pointer (some ⟨H.n, 0, none⟩)), H.push ⟨[Value.int .i64 0, .int .i64 0, .int .i64 0, .int .i64 0, .int .u32 0], 24, false⟩)).trans (by rw [← hH1_])) ?_
  refine aops_go 1 60 (by kernel_rfl) ?_
  refine aops_end (by kernel_rfl) (then_normal ?_)
  refine aw_code f21bc_eq ?_
  refine aw_then ?_
  refine aw_code f21bca_eq ?_
  refine aw_then ?_
  refine aw_code f21bcaa_eq ?_
  refine aw_reg ?_
  refine aops_go 3 60 (by kernel_rfl) ?_
  refine aops_end (by kernel_rfl) (then_normal ?_)
  refine aw_code f21bcac_eq ?_
  refine aw_cond (t := false) (by kernel_rfl) ?_
  refine aw_skip (then_normal ?_)
  refine aw_code f21bcc_eq ?_
  refine aw_then ?_
  refine aw_code f21bcca_eq ?_
  refine aw_draw0w (by kernel_rfl) ?_
  refine aops_go 1 60 (by kernel_rfl) ?_
  refine aops_val 10 (.pointer (some ⟨A, off + 0 * 1, none⟩)) H1_ (by kernel_rfl) (by kernel_rfl) (by kernel_rfl) (by kernel_rfl) ?_
  have gH1_A : H1_.get (A) = some ⟨cells, e, ro⟩ := by rw [hH1_, Heap.get_push, if_neg (by omega)]; exact gA
  refine aops_val 11 (.int .u8 x0) H1_ (by kernel_rfl) (by kernel_rfl) (by kernel_rfl) ((by kernel_rfl : _ = val (aload T14 5 (.pointer (some ⟨A, off + 0 * 1, none⟩)) H1_) H1_).trans (val_of ((aload_at gH1_A).trans (aloadC_cellB (n := 1) (by kernel_rfl) (by kernel_rfl) c0)))) ?_
  refine aops_go 1 60 (by kernel_rfl) ?_
  refine aops_see 12 (.int .i64 x0) (see_int (x := IntKind.i64.wrap x0) (by kernel_rfl) (w64 rfl (by omega) (by omega))) ?_
  refine aops_go 1 60 (by kernel_rfl) ?_
  refine aops_val 14 (.pointer (some ⟨A, off + 1 * 1, none⟩)) H1_ (by kernel_rfl) (by kernel_rfl) (by kernel_rfl) (by kernel_rfl) ?_
  refine aops_val 15 (.int .u8 x1) H1_ (by kernel_rfl) (by kernel_rfl) (by kernel_rfl) ((by kernel_rfl : _ = val (aload T14 5 (.pointer (some ⟨A, off + 1 * 1, none⟩)) H1_) H1_).trans (val_of ((aload_at gH1_A).trans (aloadC_cellB (n := 1) (by kernel_rfl) (by kernel_rfl) c1)))) ?_
  refine aops_go 1 60 (by kernel_rfl) ?_
  refine aops_see 16 (.int .i64 x1) (see_int (x := IntKind.i64.wrap x1) (by kernel_rfl) (w64 rfl (by omega) (by omega))) ?_
  refine aops_go 1 60 (by kernel_rfl) ?_
  refine aops_val 18 (.pointer (some ⟨A, off + 2 * 1, none⟩)) H1_ (by kernel_rfl) (by kernel_rfl) (by kernel_rfl) (by kernel_rfl) ?_
  refine aops_val 19 (.int .u8 x2) H1_ (by kernel_rfl) (by kernel_rfl) (by kernel_rfl) ((by kernel_rfl : _ = val (aload T14 5 (.pointer (some ⟨A, off + 2 * 1, none⟩)) H1_) H1_).trans (val_of ((aload_at gH1_A).trans (aloadC_cellB (n := 1) (by kernel_rfl) (by kernel_rfl) c2)))) ?_
  refine aops_go 1 60 (by kernel_rfl) ?_
  refine aops_see 20 (.int .i64 x2) (see_int (x := IntKind.i64.wrap x2) (by kernel_rfl) (w64 rfl (by omega) (by omega))) ?_
  refine aops_go 1 60 (by kernel_rfl) ?_
  refine aops_val 22 (.pointer (some ⟨A, off + 3 * 1, none⟩)) H1_ (by kernel_rfl) (by kernel_rfl) (by kernel_rfl) (by kernel_rfl) ?_
  refine aops_val 23 (.int .u8 x3) H1_ (by kernel_rfl) (by kernel_rfl) (by kernel_rfl) ((by kernel_rfl : _ = val (aload T14 5 (.pointer (some ⟨A, off + 3 * 1, none⟩)) H1_) H1_).trans (val_of ((aload_at gH1_A).trans (aloadC_cellB (n := 1) (by kernel_rfl) (by kernel_rfl) c3)))) ?_
  refine aops_go 1 60 (by kernel_rfl) ?_
  refine aops_see 24 (.int .i64 x3) (see_int (x := IntKind.i64.wrap x3) (by kernel_rfl) (w64 rfl (by omega) (by omega))) ?_
  refine aops_go 1 60 (by kernel_rfl) ?_
  refine aops_val 26 (.pointer (some ⟨A, off + 4 * 1, none⟩)) H1_ (by kernel_rfl) (by kernel_rfl) (by kernel_rfl) (by kernel_rfl) ?_
  refine aops_val 27 (.int .u8 x4) H1_ (by kernel_rfl) (by kernel_rfl) (by kernel_rfl) ((by kernel_rfl : _ = val (aload T14 5 (.pointer (some ⟨A, off + 4 * 1, none⟩)) H1_) H1_).trans (val_of ((aload_at gH1_A).trans (aloadC_cellB (n := 1) (by kernel_rfl) (by kernel_rfl) c4)))) ?_
  refine aops_go 1 60 (by kernel_rfl) ?_
  refine aops_see 28 (.int .u32 x4) (see_int (x := IntKind.u32.wrap x4) (by kernel_rfl) (wu32 rfl (by omega) (by omega))) ?_
  refine aops_go 1 60 (by kernel_rfl) ?_
  refine aops_val 30 (.pointer (some ⟨A, off + 5 * 1, none⟩)) H1_ (by kernel_rfl) (by kernel_rfl) (by kernel_rfl) (by kernel_rfl) ?_
  refine aops_val 31 (.int .u8 x5) H1_ (by kernel_rfl) (by kernel_rfl) (by kernel_rfl) ((by kernel_rfl : _ = val (aload T14 5 (.pointer (some ⟨A, off + 5 * 1, none⟩)) H1_) H1_).trans (val_of ((aload_at gH1_A).trans (aloadC_cellB (n := 1) (by kernel_rfl) (by kernel_rfl) c5)))) ?_
  refine aops_go 1 60 (by kernel_rfl) ?_
  refine aops_see 32 (.int .u32 x5) (see_int (x := IntKind.u32.wrap x5) (by kernel_rfl) (wu32 rfl (by omega) (by omega))) ?_
  refine aops_go 1 60 (by kernel_rfl) ?_
  refine aops_see 33 (.int .u32 (x5 * 256)) (see_int (x := (IntKind.u32.wrap (x5 * 256))) (by kernel_rfl) (wu32 rfl (by omega) (by omega))) ?_
  refine aops_go 1 60 (by kernel_rfl) ?_
  refine aops_see 34 (.int .u32 (x4 + (x5 * 256))) (see_int (x := (IntKind.u32.wrap (((BitVec.ofInt 32 x4 ||| BitVec.ofInt 32 (x5 * 256)).toNat : Nat) : Int))) (by kernel_rfl) (or_add2 x4 (x5 * 256) 8 (by omega) (by omega) (by omega) (by omega) (by omega) (by omega) (by omega))) ?_
  refine aops_go 1 60 (by kernel_rfl) ?_
  refine aops_val 36 (.pointer (some ⟨A, off + 6 * 1, none⟩)) H1_ (by kernel_rfl) (by kernel_rfl) (by kernel_rfl) (by kernel_rfl) ?_
  refine aops_val 37 (.int .u8 x6) H1_ (by kernel_rfl) (by kernel_rfl) (by kernel_rfl) ((by kernel_rfl : _ = val (aload T14 5 (.pointer (some ⟨A, off + 6 * 1, none⟩)) H1_) H1_).trans (val_of ((aload_at gH1_A).trans (aloadC_cellB (n := 1) (by kernel_rfl) (by kernel_rfl) c6)))) ?_
  refine aops_go 1 60 (by kernel_rfl) ?_
  refine aops_see 38 (.int .u32 x6) (see_int (x := IntKind.u32.wrap x6) (by kernel_rfl) (wu32 rfl (by omega) (by omega))) ?_
  refine aops_go 1 60 (by kernel_rfl) ?_
  refine aops_see 39 (.int .u32 (x6 * 65536)) (see_int (x := (IntKind.u32.wrap (x6 * 65536))) (by kernel_rfl) (wu32 rfl (by omega) (by omega))) ?_
  refine aops_go 1 60 (by kernel_rfl) ?_
  refine aops_see 40 (.int .u32 ((x4 + (x5 * 256)) + (x6 * 65536))) (see_int (x := (IntKind.u32.wrap (((BitVec.ofInt 32 (x4 + (x5 * 256)) ||| BitVec.ofInt 32 (x6 * 65536)).toNat : Nat) : Int))) (by kernel_rfl) (or_add2 (x4 + (x5 * 256)) (x6 * 65536) 16 (by omega) (by omega) (by omega) (by omega) (by omega) (by omega) (by omega))) ?_
  refine aops_go 1 60 (by kernel_rfl) ?_
  refine aops_val 42 (.pointer (some ⟨A, off + 7 * 1, none⟩)) H1_ (by kernel_rfl) (by kernel_rfl) (by kernel_rfl) (by kernel_rfl) ?_
  refine aops_val 43 (.int .u8 x7) H1_ (by kernel_rfl) (by kernel_rfl) (by kernel_rfl) ((by kernel_rfl : _ = val (aload T14 5 (.pointer (some ⟨A, off + 7 * 1, none⟩)) H1_) H1_).trans (val_of ((aload_at gH1_A).trans (aloadC_cellB (n := 1) (by kernel_rfl) (by kernel_rfl) c7)))) ?_
  refine aops_go 1 60 (by kernel_rfl) ?_
  refine aops_see 44 (.int .u32 x7) (see_int (x := IntKind.u32.wrap x7) (by kernel_rfl) (wu32 rfl (by omega) (by omega))) ?_
  refine aops_go 1 60 (by kernel_rfl) ?_
  refine aops_see 45 (.int .u32 (x7 * 16777216)) (see_int (x := (IntKind.u32.wrap (x7 * 16777216))) (by kernel_rfl) (wu32 rfl (by omega) (by omega))) ?_
  refine aops_go 1 60 (by kernel_rfl) ?_
  refine aops_see 46 (.int .u32 (((x4 + (x5 * 256)) + (x6 * 65536)) + (x7 * 16777216))) (see_int (x := (IntKind.u32.wrap (((BitVec.ofInt 32 ((x4 + (x5 * 256)) + (x6 * 65536)) ||| BitVec.ofInt 32 (x7 * 16777216)).toNat : Nat) : Int))) (by kernel_rfl) (or_add2 ((x4 + (x5 * 256)) + (x6 * 65536)) (x7 * 16777216) 24 (by omega) (by omega) (by omega) (by omega) (by omega) (by omega) (by omega))) ?_
  refine aops_go 1 60 (by kernel_rfl) ?_
  obtain ⟨H2_, hH2_⟩ : ∃ x : Heap, x = H1_.push ⟨[Value.int .i64 0, .int .i64 0, .int .i64 0, .int .i64 0, .int .u32 0], 24, false⟩ := ⟨_, rfl⟩
  have nH2_ : H2_.n = H1_.n + 1 := by rw [hH2_]; rfl
  refine aops_val 4 (.pointer (some ⟨H1_.n, 0, none⟩)) H2_ (by kernel_rfl) (by kernel_rfl) (by kernel_rfl) ((by kernel_rfl : _ = some (Res.val (.pointer (some ⟨H1_.n, 0, none⟩)), H1_.push ⟨[Value.int .i64 0, .int .i64 0, .int .i64 0, .int .i64 0, .int .u32 0], 24, false⟩)).trans (by rw [← hH2_])) ?_
  have gH2_H1__n : H2_.get (H1_.n) = some ⟨[Value.int .i64 0, .int .i64 0, .int .i64 0, .int .i64 0, .int .u32 0], 24, false⟩ := by rw [hH2_]; exact (Heap.get_push _ _ _).trans (if_pos rfl)
  obtain ⟨H3_, hH3_⟩ : ∃ x : Heap, x = H2_.put (H1_.n) ⟨[Value.int .i64 x0, .int .i64 x1, .int .i64 x2, .int .i64 x3, .int .u32 (((x4 + (x5 * 256)) + (x6 * 65536)) + (x7 * 16777216))], 24, false⟩ := ⟨_, rfl⟩
  have nH3_ : H3_.n = H2_.n := by rw [hH3_]; rfl
  refine aops_skip H3_ (by kernel_rfl) (by kernel_rfl) (by kernel_rfl) ((by kernel_rfl : _ = skp (astore T14 24 (.pointer (some ⟨H1_.n, 0, none⟩)) (.agg #[.int .i64 x0, .int .i64 x1, .int .i64 x2, .int .i64 x3, .int .u32 (((x4 + (x5 * 256)) + (x6 * 65536)) + (x7 * 16777216))]) H2_)).trans (by rw [astore_to gH2_H1__n (by kernel_rfl), ← hH3_]; rfl)) ?_
  refine aops_end (by kernel_rfl) (then_normal ?_)
  refine aw_code f21bccc_eq ?_
  refine aw_then ?_
  refine aw_code f21bccca_eq ?_
  refine aw_then ?_
  refine aw_code f21bcccaa_eq ?_
  refine aw_reg ?_
  have gH3_H1__n : H3_.get (H1_.n) = some ⟨[Value.int .i64 x0, .int .i64 x1, .int .i64 x2, .int .i64 x3, .int .u32 (((x4 + (x5 * 256)) + (x6 * 65536)) + (x7 * 16777216))], 24, false⟩ := by rw [hH3_]; exact (Heap.get_put _ _ _ _).trans (if_pos rfl)
  refine aops_val 48 (.agg #[.int .i64 x0, .int .i64 x1, .int .i64 x2, .int .i64 x3, .int .u32 (((x4 + (x5 * 256)) + (x6 * 65536)) + (x7 * 16777216))]) H3_ (by kernel_rfl) (by kernel_rfl) (by kernel_rfl) ((by kernel_rfl : _ = val (aload T14 24 (.pointer (some ⟨H1_.n, 0, none⟩)) H3_) H3_).trans (val_of ((aload_at gH3_H1__n).trans (by kernel_rfl)))) ?_
  refine aops_ask 49 (.bool false) 16 #[.agg #[.int .i64 x0, .int .i64 x1, .int .i64 x2, .int .i64 x3, .int .u32 (((x4 + (x5 * 256)) + (x6 * 65536)) + (x7 * 16777216))]] (by kernel_rfl) (by kernel_rfl) (by kernel_rfl) (by kernel_rfl) (show some (Value.bool (rightV x0 x1 x2 x3 (((x4 + (x5 * 256)) + (x6 * 65536)) + (x7 * 16777216)))) = _ by rw [hr]) ?_
  refine aops_go 1 60 (by kernel_rfl) ?_
  refine aops_end (by kernel_rfl) (then_normal ?_)
  refine aw_code f21bcccac_eq ?_
  refine aw_cond (t := true) (by kernel_rfl) ?_
  refine aw_code f21bcccaca_eq ?_
  refine aw_then ?_
  refine aw_code f21bcccacaa_eq ?_
  refine aw_reg ?_
  refine aops_go 1 60 (by kernel_rfl) ?_
  have gH3_H_n : H3_.get (H.n) = some ⟨[Value.int .i64 0, .int .i64 0, .int .i64 0, .int .i64 0, .int .u32 0], 24, false⟩ := by rw [hH3_, Heap.get_put, if_neg (by omega)]; rw [hH2_, Heap.get_push, if_neg (by omega)]; rw [hH1_]; exact (Heap.get_push _ _ _).trans (if_pos rfl)
  obtain ⟨H4_, hH4_⟩ : ∃ x : Heap, x = H3_.put (H.n) ⟨[Value.int .i64 0, .int .i64 0, .int .i64 0, .int .i64 0, .int .u32 0], 24, false⟩ := ⟨_, rfl⟩
  have nH4_ : H4_.n = H3_.n := by rw [hH4_]; rfl
  refine aops_skip H4_ (by kernel_rfl) (by kernel_rfl) (by kernel_rfl) ((by kernel_rfl : _ = skp (astore T14 24 (.pointer (some ⟨H.n, 0, none⟩)) (.agg #[.int .i64 0, .int .i64 0, .int .i64 0, .int .i64 0, .int .u32 0]) H3_)).trans (by rw [astore_to gH3_H_n (by kernel_rfl), ← hH4_]; rfl)) ?_
  refine aops_go 1 60 (by kernel_rfl) ?_
  refine aops_end (by kernel_rfl) (then_normal ?_)
  have gH4_H_n : H4_.get (H.n) = some ⟨[Value.int .i64 0, .int .i64 0, .int .i64 0, .int .i64 0, .int .u32 0], 24, false⟩ := by rw [hH4_]; exact (Heap.get_put _ _ _ _).trans (if_pos rfl)
  refine aw_ret (then_ret (bodyQ_ret_to (.tuple #[.agg #[.int .i64 0, .int .i64 0, .int .i64 0, .int .i64 0, .int .u32 0], .bool false]) H4_ (ares_cell1 2 24 3 (.pointer (some ⟨H.n, 0, none⟩)) H4_ (by kernel_rfl) (by kernel_rfl) (by kernel_rfl) (by kernel_rfl) ((aload_at gH4_H_n).trans (by kernel_rfl))) (by kernel_rfl) ?_))
  exact ⟨rfl, ⟨by omega, fun b hb => by rw [hH4_, Heap.get_put, if_neg (by omega), hH3_, Heap.get_put, if_neg (by omega), hH2_, Heap.get_push, if_neg (by omega), hH1_, Heap.get_push, if_neg (by omega)]⟩⟩
theorem rdec_any {H : Heap} {v : Value} {l : List Int} (h : Byts H v l) : ACall Tryd.prog T14 21 #[v] H fun r H' => r = rdecR (readL l) ∧ Up H.n H H' := by
  rcases h.at_ with ⟨cap, rfl, rfl⟩ | ⟨A, off, cap, cells, e, ro, rfl, gA, hA, hb⟩
  · exact rdec_nil
  · by_cases h8 : l.length = 8
    · match l, h8 with
      | [x0, x1, x2, x3, x4, x5, x6, x7], _ =>
        obtain ⟨c0, l0, m0⟩ := hb 0 (by simp)
        obtain ⟨c1, l1, m1⟩ := hb 1 (by simp)
        obtain ⟨c2, l2, m2⟩ := hb 2 (by simp)
        obtain ⟨c3, l3, m3⟩ := hb 3 (by simp)
        obtain ⟨c4, l4, m4⟩ := hb 4 (by simp)
        obtain ⟨c5, l5, m5⟩ := hb 5 (by simp)
        obtain ⟨c6, l6, m6⟩ := hb 6 (by simp)
        obtain ⟨c7, l7, m7⟩ := hb 7 (by simp)
        simp only [List.getElem_cons_zero, List.getElem_cons_succ] at c0 l0 m0 c1 l1 m1 c2 l2 m2 c3 l3 m3 c4 l4 m4 c5 l5 m5 c6 l6 m6 c7 l7 m7
        cases hr : rightV x0 x1 x2 x3 (((x4 + (x5 * 256)) + (x6 * 65536)) + (x7 * 16777216))
        · have e : readL [x0, x1, x2, x3, x4, x5, x6, x7] = ((0, 0, 0, 0, 0), 12) := by simp only [readL, num4, hr, cond_false]
          rw [e]; exact rdec_no c0 l0 m0 c1 l1 m1 c2 l2 m2 c3 l3 m3 c4 l4 m4 c5 l5 m5 c6 l6 m6 c7 l7 m7 gA hA hr
        · have e : readL [x0, x1, x2, x3, x4, x5, x6, x7] = ((x0, x1, x2, x3, (((x4 + (x5 * 256)) + (x6 * 65536)) + (x7 * 16777216))), 0) := by simp only [readL, num4, hr, cond_true]
          rw [e]; exact rdec_ok c0 l0 m0 c1 l1 m1 c2 l2 m2 c3 l3 m3 c4 l4 m4 c5 l5 m5 c6 l6 m6 c7 l7 m7 gA hA hr
    · rw [readL_ne h8]; exact rdec_ne h8
theorem Byts.keep {H H' : Heap} {v : Value} {l : List Int} (h : Byts H v l) (hn : H.n ≤ H'.n) (hg : ∀ b, b < H.n → H'.get b = H.get b) : Byts H' v l := by
  rcases h.at_ with h | ⟨A, off, cap, cells, e, ro, h1, gA, hA, hb⟩
  · exact ⟨.inl h⟩
  · exact ⟨.inr ⟨A, off, cap, cells, e, ro, h1, by rw [hg A hA]; exact gA, by omega, hb⟩⟩
theorem byts_nil (H : Heap) (cap : Nat) : Byts H (.slice none 0 cap) [] := ⟨.inl ⟨cap, rfl, rfl⟩⟩
theorem Byts.len {H : Heap} {v : Value} {l : List Int} (h : Byts H v l) : ∃ a cap, v = .slice a l.length cap := by
  rcases h.at_ with ⟨cap, rfl, rfl⟩ | ⟨A, off, cap, cells, e, ro, rfl, gA, hA, hb⟩
  · exact ⟨_, _, rfl⟩
  · exact ⟨_, _, rfl⟩
theorem dec_to {H : Heap} {v : Value} {l : List Int} {a b c d n e : Int} (h : Byts H v l) (hd : readL l = ((a, b, c, d, n), e)) : ACall Tryd.prog T14 20 #[v] H fun r H' => r = .tuple #[.agg #[.int .i64 a, .int .i64 b, .int .i64 c, .int .i64 d, .int .u32 n], .int .i64 e] ∧ Up H.n H H' :=
  (dec_any h).mono fun r H' ⟨h1, h2⟩ => ⟨by rw [h1, hd]; rfl, h2⟩
theorem rdec_to {H : Heap} {v : Value} {l : List Int} {a b c d n e : Int} {k : Bool} (h : Byts H v l) (hd : readL l = ((a, b, c, d, n), e)) (hk : (e == 0) = k) : ACall Tryd.prog T14 21 #[v] H fun r H' => r = .tuple #[.agg #[.int .i64 a, .int .i64 b, .int .i64 c, .int .i64 d, .int .u32 n], .bool k] ∧ Up H.n H H' :=
  (rdec_any h).mono fun r H' ⟨h1, h2⟩ => ⟨by rw [h1, hd, ← hk]; rfl, h2⟩
noncomputable def f8b : Code := Tryd.f8.body.getD .skip
noncomputable def f8ba : Code := cl f8b
noncomputable def f8bao : Array Oper := opsOf f8ba
noncomputable def f8bc : Code := cr f8b
noncomputable def f8bca : Code := cl f8bc
noncomputable def f8bcao : Array Oper := opsOf f8bca
noncomputable def f8bcc : Code := cr f8bc
noncomputable def f8bcca : Code := cl f8bcc
noncomputable def f8bccao : Array Oper := opsOf f8bcca
noncomputable def f8bccc : Code := cr f8bcc
noncomputable def f8bccca : Code := cl f8bccc
noncomputable def f8bcccao : Array Oper := opsOf f8bccca
noncomputable def f8bcccc : Code := cr f8bccc
noncomputable def f8bcccca : Code := cl f8bcccc
noncomputable def f8bccccaa : Code := cl f8bcccca
noncomputable def f8bccccaao : Array Oper := opsOf f8bccccaa
noncomputable def f8bccccac : Code := cr f8bcccca
noncomputable def f8bccccaca : Code := cl f8bccccac
noncomputable def f8bccccacao : Array Oper := opsOf f8bccccaca
noncomputable def f8bccccc : Code := cr f8bcccc
noncomputable def f8bccccca : Code := cl f8bccccc
noncomputable def f8bcccccaa : Code := cl f8bccccca
noncomputable def f8bcccccaao : Array Oper := opsOf f8bcccccaa
noncomputable def f8bcccccac : Code := cr f8bccccca
noncomputable def f8bcccccaca : Code := cl f8bcccccac
noncomputable def f8bcccccacao : Array Oper := opsOf f8bcccccaca
noncomputable def f8bcccccc : Code := cr f8bccccc
noncomputable def f8bcccccca : Code := cl f8bcccccc
noncomputable def f8bccccccao : Array Oper := opsOf f8bcccccca
theorem f8ba_eq : f8ba = .region 0 f8bao false := by kernel_rfl
theorem f8bca_eq : f8bca = .region 1 f8bcao false := by kernel_rfl
theorem f8bcca_eq : f8bcca = .region 2 f8bccao false := by kernel_rfl
theorem f8bccca_eq : f8bccca = .region 3 f8bcccao false := by kernel_rfl
theorem f8bccccaa_eq : f8bccccaa = .region 4 f8bccccaao false := by kernel_rfl
theorem f8bccccaca_eq : f8bccccaca = .region 5 f8bccccacao false := by kernel_rfl
theorem f8bccccac_eq : f8bccccac = .cond (cop f8bccccac) f8bccccaca .skip := by kernel_rfl
theorem f8bcccca_eq : f8bcccca = .seq f8bccccaa f8bccccac := by kernel_rfl
theorem f8bcccccaa_eq : f8bcccccaa = .region 6 f8bcccccaao false := by kernel_rfl
theorem f8bcccccaca_eq : f8bcccccaca = .region 7 f8bcccccacao false := by kernel_rfl
theorem f8bcccccac_eq : f8bcccccac = .cond (cop f8bcccccac) f8bcccccaca .skip := by kernel_rfl
theorem f8bccccca_eq : f8bccccca = .seq f8bcccccaa f8bcccccac := by kernel_rfl
theorem f8bcccccca_eq : f8bcccccca = .region 8 f8bccccccao false := by kernel_rfl
theorem f8bcccccc_eq : f8bcccccc = .seq f8bcccccca .ret := by kernel_rfl
theorem f8bccccc_eq : f8bccccc = .seq f8bccccca f8bcccccc := by kernel_rfl
theorem f8bcccc_eq : f8bcccc = .seq f8bcccca f8bccccc := by kernel_rfl
theorem f8bccc_eq : f8bccc = .seq f8bccca f8bcccc := by kernel_rfl
theorem f8bcc_eq : f8bcc = .seq f8bcca f8bccc := by kernel_rfl
theorem f8bc_eq : f8bc = .seq f8bca f8bcc := by kernel_rfl
theorem f8b_eq : f8b = .seq f8ba f8bc := by kernel_rfl
theorem f8_body : Tryd.f8.body = some f8b := by kernel_rfl
theorem f8_fn : T14.fn 8 = some Tryd.f8 := by kernel_rfl
theorem reads_end {H : Heap} {pt : Option Addr} {cap : Nat} {l : List Int} {a b c d n : Int} (hB : Byts H (.slice pt l.length cap) l) (hl : l.length ≠ 8) (hd : readL l = ((a, b, c, d, n), 10)) : ACall Tryd.prog T14 8 #[.slice pt l.length cap] H fun r H' => r = .bool true ∧ Up H.n H H' := by
  refine acall_of' 31 (initTm 0 #[.slice pt l.length cap]) rfl f8_fn f8_body rfl rfl ?_
  refine aw_code f8b_eq ?_
  refine aw_then ?_
  refine aw_code f8ba_eq ?_
  refine aw_reg ?_
  refine aops_go 1 60 (by kernel_rfl) ?_
  refine aops_end (by kernel_rfl) (then_normal ?_)
  refine aw_code f8bc_eq ?_
  refine aw_then ?_
  refine aw_code f8bca_eq ?_
  refine aw_reg ?_
  refine aops_go 1 60 (by kernel_rfl) ?_
  refine aops_call_to 10 20 #[.slice pt l.length cap] H (by kernel_rfl) (by kernel_rfl) (fun v => (by kernel_rfl)) (by kernel_rfl) (by kernel_rfl) (dec_to hB hd) ?_
  rintro _ H1_ ⟨rfl, uH1_⟩
  have nH1_ := uH1_.n
  refine aops_go 3 60 (by kernel_rfl) ?_
  obtain ⟨H2_, hH2_⟩ : ∃ x : Heap, x = H1_.push ⟨[Value.int .i64 0, .int .i64 0, .int .i64 0, .int .i64 0, .int .u32 0], 24, false⟩ := ⟨_, rfl⟩
  have nH2_ : H2_.n = H1_.n + 1 := by rw [hH2_]; rfl
  refine aops_val 3 (.pointer (some ⟨H1_.n, 0, none⟩)) H2_ (by kernel_rfl) (by kernel_rfl) (by kernel_rfl) ((by kernel_rfl : _ = some (Res.val (.pointer (some ⟨H1_.n, 0, none⟩)), H1_.push ⟨[Value.int .i64 0, .int .i64 0, .int .i64 0, .int .i64 0, .int .u32 0], 24, false⟩)).trans (by rw [← hH2_])) ?_
  have gH2_H1__n : H2_.get (H1_.n) = some ⟨[Value.int .i64 0, .int .i64 0, .int .i64 0, .int .i64 0, .int .u32 0], 24, false⟩ := by rw [hH2_]; exact (Heap.get_push _ _ _).trans (if_pos rfl)
  obtain ⟨H3_, hH3_⟩ : ∃ x : Heap, x = H2_.put (H1_.n) ⟨[Value.int .i64 a, .int .i64 b, .int .i64 c, .int .i64 d, .int .u32 n], 24, false⟩ := ⟨_, rfl⟩
  have nH3_ : H3_.n = H2_.n := by rw [hH3_]; rfl
  refine aops_skip H3_ (by kernel_rfl) (by kernel_rfl) (by kernel_rfl) ((by kernel_rfl : _ = skp (astore T14 24 (.pointer (some ⟨H1_.n, 0, none⟩)) (.agg #[.int .i64 a, .int .i64 b, .int .i64 c, .int .i64 d, .int .u32 n]) H2_)).trans (by rw [astore_to gH2_H1__n (by kernel_rfl), ← hH3_]; rfl)) ?_
  refine aops_go 1 60 (by kernel_rfl) ?_
  refine aops_end (by kernel_rfl) (then_normal ?_)
  refine aw_code f8bcc_eq ?_
  refine aw_then ?_
  refine aw_code f8bcca_eq ?_
  refine aw_reg ?_
  refine aops_go 1 60 (by kernel_rfl) ?_
  refine aops_call_to 15 21 #[.slice pt l.length cap] H3_ (by kernel_rfl) (by kernel_rfl) (fun v => (by kernel_rfl)) (by kernel_rfl) (by kernel_rfl) (rdec_to (k := false) (hB.keep (by omega) (fun b hb => by rw [hH3_, Heap.get_put, if_neg (by omega), hH2_, Heap.get_push, if_neg (by omega), uH1_.get _ (by omega)])) hd rfl) ?_
  rintro _ H4_ ⟨rfl, uH4_⟩
  have nH4_ := uH4_.n
  refine aops_go 3 60 (by kernel_rfl) ?_
  obtain ⟨H5_, hH5_⟩ : ∃ x : Heap, x = H4_.push ⟨[Value.int .i64 0, .int .i64 0, .int .i64 0, .int .i64 0, .int .u32 0], 24, false⟩ := ⟨_, rfl⟩
  have nH5_ : H5_.n = H4_.n + 1 := by rw [hH5_]; rfl
  refine aops_val 5 (.pointer (some ⟨H4_.n, 0, none⟩)) H5_ (by kernel_rfl) (by kernel_rfl) (by kernel_rfl) ((by kernel_rfl : _ = some (Res.val (.pointer (some ⟨H4_.n, 0, none⟩)), H4_.push ⟨[Value.int .i64 0, .int .i64 0, .int .i64 0, .int .i64 0, .int .u32 0], 24, false⟩)).trans (by rw [← hH5_])) ?_
  have gH5_H4__n : H5_.get (H4_.n) = some ⟨[Value.int .i64 0, .int .i64 0, .int .i64 0, .int .i64 0, .int .u32 0], 24, false⟩ := by rw [hH5_]; exact (Heap.get_push _ _ _).trans (if_pos rfl)
  obtain ⟨H6_, hH6_⟩ : ∃ x : Heap, x = H5_.put (H4_.n) ⟨[Value.int .i64 a, .int .i64 b, .int .i64 c, .int .i64 d, .int .u32 n], 24, false⟩ := ⟨_, rfl⟩
  have nH6_ : H6_.n = H5_.n := by rw [hH6_]; rfl
  refine aops_skip H6_ (by kernel_rfl) (by kernel_rfl) (by kernel_rfl) ((by kernel_rfl : _ = skp (astore T14 24 (.pointer (some ⟨H4_.n, 0, none⟩)) (.agg #[.int .i64 a, .int .i64 b, .int .i64 c, .int .i64 d, .int .u32 n]) H5_)).trans (by rw [astore_to gH5_H4__n (by kernel_rfl), ← hH6_]; rfl)) ?_
  refine aops_go 1 60 (by kernel_rfl) ?_
  refine aops_end (by kernel_rfl) (then_normal ?_)
  refine aw_code f8bccc_eq ?_
  refine aw_then ?_
  refine aw_code f8bccca_eq ?_
  refine aw_reg ?_
  refine aops_go 1 60 (by kernel_rfl) ?_
  refine aops_end (by kernel_rfl) (then_normal ?_)
  refine aw_code f8bcccc_eq ?_
  refine aw_then ?_
  refine aw_code f8bcccca_eq ?_
  refine aw_then ?_
  refine aw_code f8bccccaa_eq ?_
  refine aw_reg ?_
  refine aops_go 2 60 (by kernel_rfl) ?_
  refine aops_end (by kernel_rfl) (then_normal ?_)
  refine aw_code f8bccccac_eq ?_
  refine aw_cond (t := true) (by kernel_rfl) ?_
  refine aw_code f8bccccaca_eq ?_
  refine aw_reg ?_
  refine aops_go 1 60 (by kernel_rfl) ?_
  refine aops_end (by kernel_rfl) (then_normal ?_)
  refine aw_code f8bccccc_eq ?_
  refine aw_then ?_
  refine aw_code f8bccccca_eq ?_
  refine aw_then ?_
  refine aw_code f8bcccccaa_eq ?_
  refine aw_reg ?_
  refine aops_go 3 60 (by kernel_rfl) ?_
  refine aops_end (by kernel_rfl) (then_normal ?_)
  refine aw_code f8bcccccac_eq ?_
  refine aw_cond (t := true) (see_bool (by kernel_rfl) ((by simp; omega) : ((((l.length : Nat) : Int) != 8)) = true)) ?_
  refine aw_code f8bcccccaca_eq ?_
  refine aw_reg ?_
  refine aops_go 1 60 (by kernel_rfl) ?_
  refine aops_end (by kernel_rfl) (then_normal ?_)
  refine aw_code f8bcccccc_eq ?_
  refine aw_then ?_
  refine aw_code f8bcccccca_eq ?_
  refine aw_reg ?_
  have gH6_H1__n : H6_.get (H1_.n) = some ⟨[Value.int .i64 a, .int .i64 b, .int .i64 c, .int .i64 d, .int .u32 n], 24, false⟩ := by rw [hH6_, Heap.get_put, if_neg (by omega)]; rw [hH5_, Heap.get_push, if_neg (by omega)]; rw [uH4_.get _ (by omega)]; rw [hH3_]; exact (Heap.get_put _ _ _ _).trans (if_pos rfl)
  refine aops_val 23 (.agg #[.int .i64 a, .int .i64 b, .int .i64 c, .int .i64 d, .int .u32 n]) H6_ (by kernel_rfl) (by kernel_rfl) (by kernel_rfl) ((by kernel_rfl : _ = val (aload T14 24 (.pointer (some ⟨H1_.n, 0, none⟩)) H6_) H6_).trans (val_of ((aload_at gH6_H1__n).trans (by kernel_rfl)))) ?_
  have gH6_H4__n : H6_.get (H4_.n) = some ⟨[Value.int .i64 a, .int .i64 b, .int .i64 c, .int .i64 d, .int .u32 n], 24, false⟩ := by rw [hH6_]; exact (Heap.get_put _ _ _ _).trans (if_pos rfl)
  refine aops_val 24 (.agg #[.int .i64 a, .int .i64 b, .int .i64 c, .int .i64 d, .int .u32 n]) H6_ (by kernel_rfl) (by kernel_rfl) (by kernel_rfl) ((by kernel_rfl : _ = val (aload T14 24 (.pointer (some ⟨H4_.n, 0, none⟩)) H6_) H6_).trans (val_of ((aload_at gH6_H4__n).trans (by kernel_rfl)))) ?_
  refine aops_go 2 60 (by kernel_rfl) ?_
  refine aops_see 26 (.bool true) (see_bool (by kernel_rfl) ((by simp) : ((((a : Int) == a) && (((b : Int) == b) && (((c : Int) == c) && (((d : Int) == d) && (((n : Int) == n) && true)))))) = true)) ?_
  refine aops_go 5 60 (by kernel_rfl) ?_
  refine aops_end (by kernel_rfl) (then_normal ?_)
  refine aw_ret (bodyQ_ret_to (.bool true) H6_ (by kernel_rfl) (by kernel_rfl) ?_)
  exact ⟨rfl, ⟨by omega, fun b hb => by rw [hH6_, Heap.get_put, if_neg (by omega), hH5_, Heap.get_push, if_neg (by omega), uH4_.get _ (by omega), hH3_, Heap.get_put, if_neg (by omega), hH2_, Heap.get_push, if_neg (by omega), uH1_.get _ (by omega)]⟩⟩
theorem reads_form {H : Heap} {pt : Option Addr} {cap : Nat} {l : List Int} {a b c d n : Int} (hB : Byts H (.slice pt l.length cap) l) (hl : l.length = 8) (hd : readL l = ((a, b, c, d, n), 12)) : ACall Tryd.prog T14 8 #[.slice pt l.length cap] H fun r H' => r = .bool true ∧ Up H.n H H' := by
  refine acall_of' 31 (initTm 0 #[.slice pt l.length cap]) rfl f8_fn f8_body rfl rfl ?_
  refine aw_code f8b_eq ?_
  refine aw_then ?_
  refine aw_code f8ba_eq ?_
  refine aw_reg ?_
  refine aops_go 1 60 (by kernel_rfl) ?_
  refine aops_end (by kernel_rfl) (then_normal ?_)
  refine aw_code f8bc_eq ?_
  refine aw_then ?_
  refine aw_code f8bca_eq ?_
  refine aw_reg ?_
  refine aops_go 1 60 (by kernel_rfl) ?_
  refine aops_call_to 10 20 #[.slice pt l.length cap] H (by kernel_rfl) (by kernel_rfl) (fun v => (by kernel_rfl)) (by kernel_rfl) (by kernel_rfl) (dec_to hB hd) ?_
  rintro _ H1_ ⟨rfl, uH1_⟩
  have nH1_ := uH1_.n
  refine aops_go 3 60 (by kernel_rfl) ?_
  obtain ⟨H2_, hH2_⟩ : ∃ x : Heap, x = H1_.push ⟨[Value.int .i64 0, .int .i64 0, .int .i64 0, .int .i64 0, .int .u32 0], 24, false⟩ := ⟨_, rfl⟩
  have nH2_ : H2_.n = H1_.n + 1 := by rw [hH2_]; rfl
  refine aops_val 3 (.pointer (some ⟨H1_.n, 0, none⟩)) H2_ (by kernel_rfl) (by kernel_rfl) (by kernel_rfl) ((by kernel_rfl : _ = some (Res.val (.pointer (some ⟨H1_.n, 0, none⟩)), H1_.push ⟨[Value.int .i64 0, .int .i64 0, .int .i64 0, .int .i64 0, .int .u32 0], 24, false⟩)).trans (by rw [← hH2_])) ?_
  have gH2_H1__n : H2_.get (H1_.n) = some ⟨[Value.int .i64 0, .int .i64 0, .int .i64 0, .int .i64 0, .int .u32 0], 24, false⟩ := by rw [hH2_]; exact (Heap.get_push _ _ _).trans (if_pos rfl)
  obtain ⟨H3_, hH3_⟩ : ∃ x : Heap, x = H2_.put (H1_.n) ⟨[Value.int .i64 a, .int .i64 b, .int .i64 c, .int .i64 d, .int .u32 n], 24, false⟩ := ⟨_, rfl⟩
  have nH3_ : H3_.n = H2_.n := by rw [hH3_]; rfl
  refine aops_skip H3_ (by kernel_rfl) (by kernel_rfl) (by kernel_rfl) ((by kernel_rfl : _ = skp (astore T14 24 (.pointer (some ⟨H1_.n, 0, none⟩)) (.agg #[.int .i64 a, .int .i64 b, .int .i64 c, .int .i64 d, .int .u32 n]) H2_)).trans (by rw [astore_to gH2_H1__n (by kernel_rfl), ← hH3_]; rfl)) ?_
  refine aops_go 1 60 (by kernel_rfl) ?_
  refine aops_end (by kernel_rfl) (then_normal ?_)
  refine aw_code f8bcc_eq ?_
  refine aw_then ?_
  refine aw_code f8bcca_eq ?_
  refine aw_reg ?_
  refine aops_go 1 60 (by kernel_rfl) ?_
  refine aops_call_to 15 21 #[.slice pt l.length cap] H3_ (by kernel_rfl) (by kernel_rfl) (fun v => (by kernel_rfl)) (by kernel_rfl) (by kernel_rfl) (rdec_to (k := false) (hB.keep (by omega) (fun b hb => by rw [hH3_, Heap.get_put, if_neg (by omega), hH2_, Heap.get_push, if_neg (by omega), uH1_.get _ (by omega)])) hd rfl) ?_
  rintro _ H4_ ⟨rfl, uH4_⟩
  have nH4_ := uH4_.n
  refine aops_go 3 60 (by kernel_rfl) ?_
  obtain ⟨H5_, hH5_⟩ : ∃ x : Heap, x = H4_.push ⟨[Value.int .i64 0, .int .i64 0, .int .i64 0, .int .i64 0, .int .u32 0], 24, false⟩ := ⟨_, rfl⟩
  have nH5_ : H5_.n = H4_.n + 1 := by rw [hH5_]; rfl
  refine aops_val 5 (.pointer (some ⟨H4_.n, 0, none⟩)) H5_ (by kernel_rfl) (by kernel_rfl) (by kernel_rfl) ((by kernel_rfl : _ = some (Res.val (.pointer (some ⟨H4_.n, 0, none⟩)), H4_.push ⟨[Value.int .i64 0, .int .i64 0, .int .i64 0, .int .i64 0, .int .u32 0], 24, false⟩)).trans (by rw [← hH5_])) ?_
  have gH5_H4__n : H5_.get (H4_.n) = some ⟨[Value.int .i64 0, .int .i64 0, .int .i64 0, .int .i64 0, .int .u32 0], 24, false⟩ := by rw [hH5_]; exact (Heap.get_push _ _ _).trans (if_pos rfl)
  obtain ⟨H6_, hH6_⟩ : ∃ x : Heap, x = H5_.put (H4_.n) ⟨[Value.int .i64 a, .int .i64 b, .int .i64 c, .int .i64 d, .int .u32 n], 24, false⟩ := ⟨_, rfl⟩
  have nH6_ : H6_.n = H5_.n := by rw [hH6_]; rfl
  refine aops_skip H6_ (by kernel_rfl) (by kernel_rfl) (by kernel_rfl) ((by kernel_rfl : _ = skp (astore T14 24 (.pointer (some ⟨H4_.n, 0, none⟩)) (.agg #[.int .i64 a, .int .i64 b, .int .i64 c, .int .i64 d, .int .u32 n]) H5_)).trans (by rw [astore_to gH5_H4__n (by kernel_rfl), ← hH6_]; rfl)) ?_
  refine aops_go 1 60 (by kernel_rfl) ?_
  refine aops_end (by kernel_rfl) (then_normal ?_)
  refine aw_code f8bccc_eq ?_
  refine aw_then ?_
  refine aw_code f8bccca_eq ?_
  refine aw_reg ?_
  refine aops_go 1 60 (by kernel_rfl) ?_
  refine aops_end (by kernel_rfl) (then_normal ?_)
  refine aw_code f8bcccc_eq ?_
  refine aw_then ?_
  refine aw_code f8bcccca_eq ?_
  refine aw_then ?_
  refine aw_code f8bccccaa_eq ?_
  refine aw_reg ?_
  refine aops_go 2 60 (by kernel_rfl) ?_
  refine aops_end (by kernel_rfl) (then_normal ?_)
  refine aw_code f8bccccac_eq ?_
  refine aw_cond (t := true) (by kernel_rfl) ?_
  refine aw_code f8bccccaca_eq ?_
  refine aw_reg ?_
  refine aops_go 1 60 (by kernel_rfl) ?_
  refine aops_end (by kernel_rfl) (then_normal ?_)
  refine aw_code f8bccccc_eq ?_
  refine aw_then ?_
  refine aw_code f8bccccca_eq ?_
  refine aw_then ?_
  refine aw_code f8bcccccaa_eq ?_
  refine aw_reg ?_
  refine aops_go 3 60 (by kernel_rfl) ?_
  refine aops_end (by kernel_rfl) (then_normal ?_)
  refine aw_code f8bcccccac_eq ?_
  refine aw_cond (t := false) (see_bool (by kernel_rfl) ((by simp; omega) : ((((l.length : Nat) : Int) != 8)) = false)) ?_
  refine aw_skip (then_normal ?_)
  refine aw_code f8bcccccc_eq ?_
  refine aw_then ?_
  refine aw_code f8bcccccca_eq ?_
  refine aw_reg ?_
  have gH6_H1__n : H6_.get (H1_.n) = some ⟨[Value.int .i64 a, .int .i64 b, .int .i64 c, .int .i64 d, .int .u32 n], 24, false⟩ := by rw [hH6_, Heap.get_put, if_neg (by omega)]; rw [hH5_, Heap.get_push, if_neg (by omega)]; rw [uH4_.get _ (by omega)]; rw [hH3_]; exact (Heap.get_put _ _ _ _).trans (if_pos rfl)
  refine aops_val 23 (.agg #[.int .i64 a, .int .i64 b, .int .i64 c, .int .i64 d, .int .u32 n]) H6_ (by kernel_rfl) (by kernel_rfl) (by kernel_rfl) ((by kernel_rfl : _ = val (aload T14 24 (.pointer (some ⟨H1_.n, 0, none⟩)) H6_) H6_).trans (val_of ((aload_at gH6_H1__n).trans (by kernel_rfl)))) ?_
  have gH6_H4__n : H6_.get (H4_.n) = some ⟨[Value.int .i64 a, .int .i64 b, .int .i64 c, .int .i64 d, .int .u32 n], 24, false⟩ := by rw [hH6_]; exact (Heap.get_put _ _ _ _).trans (if_pos rfl)
  refine aops_val 24 (.agg #[.int .i64 a, .int .i64 b, .int .i64 c, .int .i64 d, .int .u32 n]) H6_ (by kernel_rfl) (by kernel_rfl) (by kernel_rfl) ((by kernel_rfl : _ = val (aload T14 24 (.pointer (some ⟨H4_.n, 0, none⟩)) H6_) H6_).trans (val_of ((aload_at gH6_H4__n).trans (by kernel_rfl)))) ?_
  refine aops_go 2 60 (by kernel_rfl) ?_
  refine aops_see 26 (.bool true) (see_bool (by kernel_rfl) ((by simp) : ((((a : Int) == a) && (((b : Int) == b) && (((c : Int) == c) && (((d : Int) == d) && (((n : Int) == n) && true)))))) = true)) ?_
  refine aops_go 5 60 (by kernel_rfl) ?_
  refine aops_end (by kernel_rfl) (then_normal ?_)
  refine aw_ret (bodyQ_ret_to (.bool true) H6_ (by kernel_rfl) (by kernel_rfl) ?_)
  exact ⟨rfl, ⟨by omega, fun b hb => by rw [hH6_, Heap.get_put, if_neg (by omega), hH5_, Heap.get_push, if_neg (by omega), uH4_.get _ (by omega), hH3_, Heap.get_put, if_neg (by omega), hH2_, Heap.get_push, if_neg (by omega), uH1_.get _ (by omega)]⟩⟩
theorem reads_ok {H : Heap} {pt : Option Addr} {cap : Nat} {l : List Int} {a b c d n : Int} (hB : Byts H (.slice pt l.length cap) l) (hl : l.length = 8) (hd : readL l = ((a, b, c, d, n), 0)) : ACall Tryd.prog T14 8 #[.slice pt l.length cap] H fun r H' => r = .bool true ∧ Up H.n H H' := by
  refine acall_of' 31 (initTm 0 #[.slice pt l.length cap]) rfl f8_fn f8_body rfl rfl ?_
  refine aw_code f8b_eq ?_
  refine aw_then ?_
  refine aw_code f8ba_eq ?_
  refine aw_reg ?_
  refine aops_go 1 60 (by kernel_rfl) ?_
  refine aops_end (by kernel_rfl) (then_normal ?_)
  refine aw_code f8bc_eq ?_
  refine aw_then ?_
  refine aw_code f8bca_eq ?_
  refine aw_reg ?_
  refine aops_go 1 60 (by kernel_rfl) ?_
  refine aops_call_to 10 20 #[.slice pt l.length cap] H (by kernel_rfl) (by kernel_rfl) (fun v => (by kernel_rfl)) (by kernel_rfl) (by kernel_rfl) (dec_to hB hd) ?_
  rintro _ H1_ ⟨rfl, uH1_⟩
  have nH1_ := uH1_.n
  refine aops_go 3 60 (by kernel_rfl) ?_
  obtain ⟨H2_, hH2_⟩ : ∃ x : Heap, x = H1_.push ⟨[Value.int .i64 0, .int .i64 0, .int .i64 0, .int .i64 0, .int .u32 0], 24, false⟩ := ⟨_, rfl⟩
  have nH2_ : H2_.n = H1_.n + 1 := by rw [hH2_]; rfl
  refine aops_val 3 (.pointer (some ⟨H1_.n, 0, none⟩)) H2_ (by kernel_rfl) (by kernel_rfl) (by kernel_rfl) ((by kernel_rfl : _ = some (Res.val (.pointer (some ⟨H1_.n, 0, none⟩)), H1_.push ⟨[Value.int .i64 0, .int .i64 0, .int .i64 0, .int .i64 0, .int .u32 0], 24, false⟩)).trans (by rw [← hH2_])) ?_
  have gH2_H1__n : H2_.get (H1_.n) = some ⟨[Value.int .i64 0, .int .i64 0, .int .i64 0, .int .i64 0, .int .u32 0], 24, false⟩ := by rw [hH2_]; exact (Heap.get_push _ _ _).trans (if_pos rfl)
  obtain ⟨H3_, hH3_⟩ : ∃ x : Heap, x = H2_.put (H1_.n) ⟨[Value.int .i64 a, .int .i64 b, .int .i64 c, .int .i64 d, .int .u32 n], 24, false⟩ := ⟨_, rfl⟩
  have nH3_ : H3_.n = H2_.n := by rw [hH3_]; rfl
  refine aops_skip H3_ (by kernel_rfl) (by kernel_rfl) (by kernel_rfl) ((by kernel_rfl : _ = skp (astore T14 24 (.pointer (some ⟨H1_.n, 0, none⟩)) (.agg #[.int .i64 a, .int .i64 b, .int .i64 c, .int .i64 d, .int .u32 n]) H2_)).trans (by rw [astore_to gH2_H1__n (by kernel_rfl), ← hH3_]; rfl)) ?_
  refine aops_go 1 60 (by kernel_rfl) ?_
  refine aops_end (by kernel_rfl) (then_normal ?_)
  refine aw_code f8bcc_eq ?_
  refine aw_then ?_
  refine aw_code f8bcca_eq ?_
  refine aw_reg ?_
  refine aops_go 1 60 (by kernel_rfl) ?_
  refine aops_call_to 15 21 #[.slice pt l.length cap] H3_ (by kernel_rfl) (by kernel_rfl) (fun v => (by kernel_rfl)) (by kernel_rfl) (by kernel_rfl) (rdec_to (k := true) (hB.keep (by omega) (fun b hb => by rw [hH3_, Heap.get_put, if_neg (by omega), hH2_, Heap.get_push, if_neg (by omega), uH1_.get _ (by omega)])) hd rfl) ?_
  rintro _ H4_ ⟨rfl, uH4_⟩
  have nH4_ := uH4_.n
  refine aops_go 3 60 (by kernel_rfl) ?_
  obtain ⟨H5_, hH5_⟩ : ∃ x : Heap, x = H4_.push ⟨[Value.int .i64 0, .int .i64 0, .int .i64 0, .int .i64 0, .int .u32 0], 24, false⟩ := ⟨_, rfl⟩
  have nH5_ : H5_.n = H4_.n + 1 := by rw [hH5_]; rfl
  refine aops_val 5 (.pointer (some ⟨H4_.n, 0, none⟩)) H5_ (by kernel_rfl) (by kernel_rfl) (by kernel_rfl) ((by kernel_rfl : _ = some (Res.val (.pointer (some ⟨H4_.n, 0, none⟩)), H4_.push ⟨[Value.int .i64 0, .int .i64 0, .int .i64 0, .int .i64 0, .int .u32 0], 24, false⟩)).trans (by rw [← hH5_])) ?_
  have gH5_H4__n : H5_.get (H4_.n) = some ⟨[Value.int .i64 0, .int .i64 0, .int .i64 0, .int .i64 0, .int .u32 0], 24, false⟩ := by rw [hH5_]; exact (Heap.get_push _ _ _).trans (if_pos rfl)
  obtain ⟨H6_, hH6_⟩ : ∃ x : Heap, x = H5_.put (H4_.n) ⟨[Value.int .i64 a, .int .i64 b, .int .i64 c, .int .i64 d, .int .u32 n], 24, false⟩ := ⟨_, rfl⟩
  have nH6_ : H6_.n = H5_.n := by rw [hH6_]; rfl
  refine aops_skip H6_ (by kernel_rfl) (by kernel_rfl) (by kernel_rfl) ((by kernel_rfl : _ = skp (astore T14 24 (.pointer (some ⟨H4_.n, 0, none⟩)) (.agg #[.int .i64 a, .int .i64 b, .int .i64 c, .int .i64 d, .int .u32 n]) H5_)).trans (by rw [astore_to gH5_H4__n (by kernel_rfl), ← hH6_]; rfl)) ?_
  refine aops_go 1 60 (by kernel_rfl) ?_
  refine aops_end (by kernel_rfl) (then_normal ?_)
  refine aw_code f8bccc_eq ?_
  refine aw_then ?_
  refine aw_code f8bccca_eq ?_
  refine aw_reg ?_
  refine aops_go 1 60 (by kernel_rfl) ?_
  refine aops_end (by kernel_rfl) (then_normal ?_)
  refine aw_code f8bcccc_eq ?_
  refine aw_then ?_
  refine aw_code f8bcccca_eq ?_
  refine aw_then ?_
  refine aw_code f8bccccaa_eq ?_
  refine aw_reg ?_
  refine aops_go 2 60 (by kernel_rfl) ?_
  refine aops_end (by kernel_rfl) (then_normal ?_)
  refine aw_code f8bccccac_eq ?_
  refine aw_cond (t := false) (by kernel_rfl) ?_
  refine aw_skip (then_normal ?_)
  refine aw_code f8bccccc_eq ?_
  refine aw_then ?_
  refine aw_code f8bccccca_eq ?_
  refine aw_then ?_
  refine aw_code f8bcccccaa_eq ?_
  refine aw_reg ?_
  refine aops_go 3 60 (by kernel_rfl) ?_
  refine aops_end (by kernel_rfl) (then_normal ?_)
  refine aw_code f8bcccccac_eq ?_
  refine aw_cond (t := false) (see_bool (by kernel_rfl) ((by simp; omega) : ((((l.length : Nat) : Int) != 8)) = false)) ?_
  refine aw_skip (then_normal ?_)
  refine aw_code f8bcccccc_eq ?_
  refine aw_then ?_
  refine aw_code f8bcccccca_eq ?_
  refine aw_reg ?_
  have gH6_H1__n : H6_.get (H1_.n) = some ⟨[Value.int .i64 a, .int .i64 b, .int .i64 c, .int .i64 d, .int .u32 n], 24, false⟩ := by rw [hH6_, Heap.get_put, if_neg (by omega)]; rw [hH5_, Heap.get_push, if_neg (by omega)]; rw [uH4_.get _ (by omega)]; rw [hH3_]; exact (Heap.get_put _ _ _ _).trans (if_pos rfl)
  refine aops_val 23 (.agg #[.int .i64 a, .int .i64 b, .int .i64 c, .int .i64 d, .int .u32 n]) H6_ (by kernel_rfl) (by kernel_rfl) (by kernel_rfl) ((by kernel_rfl : _ = val (aload T14 24 (.pointer (some ⟨H1_.n, 0, none⟩)) H6_) H6_).trans (val_of ((aload_at gH6_H1__n).trans (by kernel_rfl)))) ?_
  have gH6_H4__n : H6_.get (H4_.n) = some ⟨[Value.int .i64 a, .int .i64 b, .int .i64 c, .int .i64 d, .int .u32 n], 24, false⟩ := by rw [hH6_]; exact (Heap.get_put _ _ _ _).trans (if_pos rfl)
  refine aops_val 24 (.agg #[.int .i64 a, .int .i64 b, .int .i64 c, .int .i64 d, .int .u32 n]) H6_ (by kernel_rfl) (by kernel_rfl) (by kernel_rfl) ((by kernel_rfl : _ = val (aload T14 24 (.pointer (some ⟨H4_.n, 0, none⟩)) H6_) H6_).trans (val_of ((aload_at gH6_H4__n).trans (by kernel_rfl)))) ?_
  refine aops_go 2 60 (by kernel_rfl) ?_
  refine aops_see 26 (.bool true) (see_bool (by kernel_rfl) ((by simp) : ((((a : Int) == a) && (((b : Int) == b) && (((c : Int) == c) && (((d : Int) == d) && (((n : Int) == n) && true)))))) = true)) ?_
  refine aops_go 5 60 (by kernel_rfl) ?_
  refine aops_end (by kernel_rfl) (then_normal ?_)
  refine aw_ret (bodyQ_ret_to (.bool true) H6_ (by kernel_rfl) (by kernel_rfl) ?_)
  exact ⟨rfl, ⟨by omega, fun b hb => by rw [hH6_, Heap.get_put, if_neg (by omega), hH5_, Heap.get_push, if_neg (by omega), uH4_.get _ (by omega), hH3_, Heap.get_put, if_neg (by omega), hH2_, Heap.get_push, if_neg (by omega), uH1_.get _ (by omega)]⟩⟩
theorem reads_any {H : Heap} {v : Value} {l : List Int} (hB : Byts H v l) : ACall Tryd.prog T14 8 #[v] H fun r H' => r = .bool true ∧ Up H.n H H' := by
  obtain ⟨pt, cap, rfl⟩ := hB.len
  rcases readL_in l with ⟨h1, h2⟩ | ⟨h1, h2⟩ | ⟨h1, h2⟩
  · exact reads_end hB h1 h2
  · exact reads_form hB h1 h2
  · rcases hd : readL l with ⟨⟨a, b, c, d, n⟩, e⟩
    rw [hd] at h2
    simp only at h2
    subst h2
    exact reads_ok hB h1 hd
end Hc
end Go.Proofs.YtndjckfnggnddaaDoor
