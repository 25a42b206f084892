/- Chapter 2: what bytes begin with is told as the document says. -/
import Derived.Test.YtpfmmckbfejfnaaDoorGt
import Derived.Test.YtpfmmckbfejfnaaDoorGu
namespace Go.Proofs.YtpfmmckbfejfnaaDoor
open Go Go.Ev Go.RowKit
set_option linter.unusedVariables false
set_option linter.unusedSimpArgs false
set_option maxRecDepth 100000
namespace Gc
theorem dec_to {H : Heap} {v : Value} {l : List Int} {a N s e : Int} (h : Byts H v l) (hd : readL l = (a, N, s, e)) : ACall Tryd.prog T20 23 #[v] H fun r H' => r = .tuple #[.agg #[.int .i64 a, .int .u32 N], .int .i64 s, .int .i64 e] ∧ Up H.n H H' :=
  (dec_any h).mono fun r H' ⟨h1, h2⟩ => ⟨by rw [h1, hd]; rfl, h2⟩
theorem rdec_to {H : Heap} {v : Value} {l : List Int} {a N s e : Int} {b : Bool} (h : Byts H v l) (hd : readL l = (a, N, s, e)) (hb : (e == 10) = b) : ACall Tryd.prog T20 35 #[v] H fun r H' => r = .tuple #[.agg #[.int .i64 a, .int .u32 N], .int .i64 s, .bool b] ∧ Up H.n H H' :=
  (rdec_any h).mono fun r H' ⟨h1, h2⟩ => ⟨by rw [h1, hd, ← hb]; rfl, h2⟩
noncomputable def f10b : Code := Tryd.f10.body.getD .skip
noncomputable def f10ba : Code := cl f10b
noncomputable def f10bao : Array Oper := opsOf f10ba
noncomputable def f10bc : Code := cr f10b
noncomputable def f10bca : Code := cl f10bc
noncomputable def f10bcao : Array Oper := opsOf f10bca
noncomputable def f10bcc : Code := cr f10bc
noncomputable def f10bcca : Code := cl f10bcc
noncomputable def f10bccao : Array Oper := opsOf f10bcca
noncomputable def f10bccc : Code := cr f10bcc
noncomputable def f10bccca : Code := cl f10bccc
noncomputable def f10bcccao : Array Oper := opsOf f10bccca
noncomputable def f10bcccc : Code := cr f10bccc
noncomputable def f10bcccca : Code := cl f10bcccc
noncomputable def f10bccccaa : Code := cl f10bcccca
noncomputable def f10bccccaao : Array Oper := opsOf f10bccccaa
noncomputable def f10bccccac : Code := cr f10bcccca
noncomputable def f10bccccaca : Code := cl f10bccccac
noncomputable def f10bccccacaa : Code := cl f10bccccaca
noncomputable def f10bccccacaao : Array Oper := opsOf f10bccccacaa
noncomputable def f10bccccacac : Code := cr f10bccccaca
noncomputable def f10bccccacaca : Code := cl f10bccccacac
noncomputable def f10bccccacacao : Array Oper := opsOf f10bccccacaca
noncomputable def f10bccccacacc : Code := cr f10bccccacac
noncomputable def f10bccccacacca : Code := cl f10bccccacacc
noncomputable def f10bccccacaccao : Array Oper := opsOf f10bccccacacca
noncomputable def f10bccccc : Code := cr f10bcccc
noncomputable def f10bccccca : Code := cl f10bccccc
noncomputable def f10bcccccao : Array Oper := opsOf f10bccccca
theorem f10ba_eq : f10ba = .region 0 f10bao false := by kernel_rfl
theorem f10bca_eq : f10bca = .region 1 f10bcao false := by kernel_rfl
theorem f10bcca_eq : f10bcca = .region 2 f10bccao false := by kernel_rfl
theorem f10bccca_eq : f10bccca = .region 3 f10bcccao false := by kernel_rfl
theorem f10bccccaa_eq : f10bccccaa = .region 4 f10bccccaao false := by kernel_rfl
theorem f10bccccacaa_eq : f10bccccacaa = .region 5 f10bccccacaao false := by kernel_rfl
theorem f10bccccacaca_eq : f10bccccacaca = .region 6 f10bccccacacao false := by kernel_rfl
theorem f10bccccacacca_eq : f10bccccacacca = .region 7 f10bccccacaccao false := by kernel_rfl
theorem f10bccccacacc_eq : f10bccccacacc = .cond (cop f10bccccacacc) f10bccccacacca .skip := by kernel_rfl
theorem f10bccccacac_eq : f10bccccacac = .seq f10bccccacaca f10bccccacacc := by kernel_rfl
theorem f10bccccaca_eq : f10bccccaca = .seq f10bccccacaa f10bccccacac := by kernel_rfl
theorem f10bccccac_eq : f10bccccac = .cond (cop f10bccccac) f10bccccaca .skip := by kernel_rfl
theorem f10bcccca_eq : f10bcccca = .seq f10bccccaa f10bccccac := by kernel_rfl
theorem f10bccccca_eq : f10bccccca = .region 8 f10bcccccao false := by kernel_rfl
theorem f10bccccc_eq : f10bccccc = .seq f10bccccca .ret := by kernel_rfl
theorem f10bcccc_eq : f10bcccc = .seq f10bcccca f10bccccc := by kernel_rfl
theorem f10bccc_eq : f10bccc = .seq f10bccca f10bcccc := by kernel_rfl
theorem f10bcc_eq : f10bcc = .seq f10bcca f10bccc := by kernel_rfl
theorem f10bc_eq : f10bc = .seq f10bca f10bcc := by kernel_rfl
theorem f10b_eq : f10b = .seq f10ba f10bc := by kernel_rfl
theorem f10_body : Tryd.f10.body = some f10b := by kernel_rfl
theorem f10_fn : T20.fn 10 = some Tryd.f10 := by kernel_rfl
theorem reads_end {H : Heap} {v : Value} {l : List Int} {a N sz : Int} (hB : Byts H v l) (hd : readL l = (a, N, 0, 10)) (hs : 0 < sz) : ACall Tryd.prog T20 10 #[v] H fun r H' => r = .bool true ∧ Up H.n H H' := by
  refine acall_of' 38 (initTm 0 #[v]) rfl f10_fn f10_body rfl rfl ?_
  refine aw_code f10b_eq ?_
  refine aw_then ?_
  refine aw_code f10ba_eq ?_
  refine aw_reg ?_
  refine aops_go 1 60 (by kernel_rfl) ?_
  refine aops_end (by kernel_rfl) (then_normal ?_)
  refine aw_code f10bc_eq ?_
  refine aw_then ?_
  refine aw_code f10bca_eq ?_
  refine aw_reg ?_
  refine aops_go 1 60 (by kernel_rfl) ?_
  refine aops_call_to 12 23 #[v] H (by kernel_rfl) (by kernel_rfl) (fun v => (by kernel_rfl)) (by kernel_rfl) (by kernel_rfl) (dec_to hB hd) ?_
  rintro _ H1_ ⟨rfl, uH1_⟩
  have nH1_ := uH1_.n
  refine aops_go 4 60 (by kernel_rfl) ?_
  obtain ⟨H2_, hH2_⟩ : ∃ x : Heap, x = H1_.push ⟨[Value.int .i64 0, .int .u32 0], 26, false⟩ := ⟨_, rfl⟩
  have nH2_ : H2_.n = H1_.n + 1 := by rw [hH2_]; rfl
  refine aops_val 3 (.pointer (some ⟨H1_.n, 0, none⟩)) H2_ (by kernel_rfl) (by kernel_rfl) (by kernel_rfl) ((by kernel_rfl : _ = some (Res.val (.pointer (some ⟨H1_.n, 0, none⟩)), H1_.push ⟨[Value.int .i64 0, .int .u32 0], 26, false⟩)).trans (by rw [← hH2_])) ?_
  have gH2_H1__n : H2_.get (H1_.n) = some ⟨[Value.int .i64 0, .int .u32 0], 26, false⟩ := by rw [hH2_]; exact (Heap.get_push _ _ _).trans (if_pos rfl)
  obtain ⟨H3_, hH3_⟩ : ∃ x : Heap, x = H2_.put (H1_.n) ⟨[Value.int .i64 a, .int .u32 N], 26, false⟩ := ⟨_, rfl⟩
  have nH3_ : H3_.n = H2_.n := by rw [hH3_]; rfl
  refine aops_skip H3_ (by kernel_rfl) (by kernel_rfl) (by kernel_rfl) ((by kernel_rfl : _ = skp (astore T20 26 (.pointer (some ⟨H1_.n, 0, none⟩)) (.agg #[.int .i64 a, .int .u32 N]) H2_)).trans (by rw [astore_to gH2_H1__n (by kernel_rfl), ← hH3_]; rfl)) ?_
  refine aops_go 2 60 (by kernel_rfl) ?_
  refine aops_end (by kernel_rfl) (then_normal ?_)
  refine aw_code f10bcc_eq ?_
  refine aw_then ?_
  refine aw_code f10bcca_eq ?_
  refine aw_reg ?_
  refine aops_go 1 60 (by kernel_rfl) ?_
  refine aops_call_to 18 35 #[v] H3_ (by kernel_rfl) (by kernel_rfl) (fun v => (by kernel_rfl)) (by kernel_rfl) (by kernel_rfl) (rdec_to (b := true) (hB.keep (by omega) (fun b hb => by rw [hH3_, Heap.get_put, if_neg (by omega), hH2_, Heap.get_push, if_neg (by omega), uH1_.get _ (by omega)])) hd rfl) ?_
  rintro _ H4_ ⟨rfl, uH4_⟩
  have nH4_ := uH4_.n
  refine aops_go 4 60 (by kernel_rfl) ?_
  obtain ⟨H5_, hH5_⟩ : ∃ x : Heap, x = H4_.push ⟨[Value.int .i64 0, .int .u32 0], 26, false⟩ := ⟨_, rfl⟩
  have nH5_ : H5_.n = H4_.n + 1 := by rw [hH5_]; rfl
  refine aops_val 6 (.pointer (some ⟨H4_.n, 0, none⟩)) H5_ (by kernel_rfl) (by kernel_rfl) (by kernel_rfl) ((by kernel_rfl : _ = some (Res.val (.pointer (some ⟨H4_.n, 0, none⟩)), H4_.push ⟨[Value.int .i64 0, .int .u32 0], 26, false⟩)).trans (by rw [← hH5_])) ?_
  have gH5_H4__n : H5_.get (H4_.n) = some ⟨[Value.int .i64 0, .int .u32 0], 26, false⟩ := by rw [hH5_]; exact (Heap.get_push _ _ _).trans (if_pos rfl)
  obtain ⟨H6_, hH6_⟩ : ∃ x : Heap, x = H5_.put (H4_.n) ⟨[Value.int .i64 a, .int .u32 N], 26, false⟩ := ⟨_, rfl⟩
  have nH6_ : H6_.n = H5_.n := by rw [hH6_]; rfl
  refine aops_skip H6_ (by kernel_rfl) (by kernel_rfl) (by kernel_rfl) ((by kernel_rfl : _ = skp (astore T20 26 (.pointer (some ⟨H4_.n, 0, none⟩)) (.agg #[.int .i64 a, .int .u32 N]) H5_)).trans (by rw [astore_to gH5_H4__n (by kernel_rfl), ← hH6_]; rfl)) ?_
  refine aops_go 2 60 (by kernel_rfl) ?_
  refine aops_end (by kernel_rfl) (then_normal ?_)
  refine aw_code f10bccc_eq ?_
  refine aw_then ?_
  refine aw_code f10bccca_eq ?_
  refine aw_reg ?_
  refine aops_go 1 60 (by kernel_rfl) ?_
  refine aops_end (by kernel_rfl) (then_normal ?_)
  refine aw_code f10bcccc_eq ?_
  refine aw_then ?_
  refine aw_code f10bcccca_eq ?_
  refine aw_then ?_
  refine aw_code f10bccccaa_eq ?_
  refine aw_reg ?_
  refine aops_go 2 60 (by kernel_rfl) ?_
  refine aops_end (by kernel_rfl) (then_normal ?_)
  refine aw_code f10bccccac_eq ?_
  refine aw_cond (t := true) (by kernel_rfl) ?_
  refine aw_code f10bccccaca_eq ?_
  refine aw_then ?_
  refine aw_code f10bccccacaa_eq ?_
  refine aw_reg ?_
  refine aops_go 1 60 (by kernel_rfl) ?_
  refine aops_end (by kernel_rfl) (then_normal ?_)
  refine aw_code f10bccccacac_eq ?_
  refine aw_then ?_
  refine aw_code f10bccccacaca_eq ?_
  refine aw_reg ?_
  refine aops_go 1 60 (by kernel_rfl) ?_
  refine aops_end (by kernel_rfl) (then_normal ?_)
  refine aw_code f10bccccacacc_eq ?_
  refine aw_cond (t := true) (by kernel_rfl) ?_
  refine aw_code f10bccccacacca_eq ?_
  refine aw_reg ?_
  refine aops_go 1 60 (by kernel_rfl) ?_
  refine aops_end (by kernel_rfl) (then_normal ?_)
  refine aw_code f10bccccc_eq ?_
  refine aw_then ?_
  refine aw_code f10bccccca_eq ?_
  refine aw_reg ?_
  have gH6_H1__n : H6_.get (H1_.n) = some ⟨[Value.int .i64 a, .int .u32 N], 26, false⟩ := by rw [hH6_, Heap.get_put, if_neg (by omega)]; rw [hH5_, Heap.get_push, if_neg (by omega)]; rw [uH4_.get _ (by omega)]; rw [hH3_]; exact (Heap.get_put _ _ _ _).trans (if_pos rfl)
  refine aops_val 25 (.agg #[.int .i64 a, .int .u32 N]) H6_ (by kernel_rfl) (by kernel_rfl) (by kernel_rfl) ((by kernel_rfl : _ = val (aload T20 26 (.pointer (some ⟨H1_.n, 0, none⟩)) H6_) H6_).trans (val_of ((aload_at gH6_H1__n).trans (by kernel_rfl)))) ?_
  have gH6_H4__n : H6_.get (H4_.n) = some ⟨[Value.int .i64 a, .int .u32 N], 26, false⟩ := by rw [hH6_]; exact (Heap.get_put _ _ _ _).trans (if_pos rfl)
  refine aops_val 26 (.agg #[.int .i64 a, .int .u32 N]) H6_ (by kernel_rfl) (by kernel_rfl) (by kernel_rfl) ((by kernel_rfl : _ = val (aload T20 26 (.pointer (some ⟨H4_.n, 0, none⟩)) H6_) H6_).trans (val_of ((aload_at gH6_H4__n).trans (by kernel_rfl)))) ?_
  refine aops_go 2 60 (by kernel_rfl) ?_
  refine aops_see 28 (.bool true) (see_bool (by kernel_rfl) ((by simp) : ((((a : Int) == a) && (((N : Int) == N) && true))) = true)) ?_
  refine aops_go 10 60 (by kernel_rfl) ?_
  refine aops_end (by kernel_rfl) (then_normal ?_)
  refine aw_ret (bodyQ_ret_to (.bool true) H6_ (by kernel_rfl) (by kernel_rfl) ?_)
  exact ⟨rfl, by omega, fun b hb => by rw [hH6_, Heap.get_put, if_neg (by omega), hH5_, Heap.get_push, if_neg (by omega), uH4_.get _ (by omega), hH3_, Heap.get_put, if_neg (by omega), hH2_, Heap.get_push, if_neg (by omega), uH1_.get _ (by omega)]⟩
theorem reads_form {H : Heap} {v : Value} {l : List Int} {a N sz : Int} (hB : Byts H v l) (hd : readL l = (a, N, 0, 12)) (hs : 0 < sz) : ACall Tryd.prog T20 10 #[v] H fun r H' => r = .bool true ∧ Up H.n H H' := by
  refine acall_of' 38 (initTm 0 #[v]) rfl f10_fn f10_body rfl rfl ?_
  refine aw_code f10b_eq ?_
  refine aw_then ?_
  refine aw_code f10ba_eq ?_
  refine aw_reg ?_
  refine aops_go 1 60 (by kernel_rfl) ?_
  refine aops_end (by kernel_rfl) (then_normal ?_)
  refine aw_code f10bc_eq ?_
  refine aw_then ?_
  refine aw_code f10bca_eq ?_
  refine aw_reg ?_
  refine aops_go 1 60 (by kernel_rfl) ?_
  refine aops_call_to 12 23 #[v] H (by kernel_rfl) (by kernel_rfl) (fun v => (by kernel_rfl)) (by kernel_rfl) (by kernel_rfl) (dec_to hB hd) ?_
  rintro _ H1_ ⟨rfl, uH1_⟩
  have nH1_ := uH1_.n
  refine aops_go 4 60 (by kernel_rfl) ?_
  obtain ⟨H2_, hH2_⟩ : ∃ x : Heap, x = H1_.push ⟨[Value.int .i64 0, .int .u32 0], 26, false⟩ := ⟨_, rfl⟩
  have nH2_ : H2_.n = H1_.n + 1 := by rw [hH2_]; rfl
  refine aops_val 3 (.pointer (some ⟨H1_.n, 0, none⟩)) H2_ (by kernel_rfl) (by kernel_rfl) (by kernel_rfl) ((by kernel_rfl : _ = some (Res.val (.pointer (some ⟨H1_.n, 0, none⟩)), H1_.push ⟨[Value.int .i64 0, .int .u32 0], 26, false⟩)).trans (by rw [← hH2_])) ?_
  have gH2_H1__n : H2_.get (H1_.n) = some ⟨[Value.int .i64 0, .int .u32 0], 26, false⟩ := by rw [hH2_]; exact (Heap.get_push _ _ _).trans (if_pos rfl)
  obtain ⟨H3_, hH3_⟩ : ∃ x : Heap, x = H2_.put (H1_.n) ⟨[Value.int .i64 a, .int .u32 N], 26, false⟩ := ⟨_, rfl⟩
  have nH3_ : H3_.n = H2_.n := by rw [hH3_]; rfl
  refine aops_skip H3_ (by kernel_rfl) (by kernel_rfl) (by kernel_rfl) ((by kernel_rfl : _ = skp (astore T20 26 (.pointer (some ⟨H1_.n, 0, none⟩)) (.agg #[.int .i64 a, .int .u32 N]) H2_)).trans (by rw [astore_to gH2_H1__n (by kernel_rfl), ← hH3_]; rfl)) ?_
  refine aops_go 2 60 (by kernel_rfl) ?_
  refine aops_end (by kernel_rfl) (then_normal ?_)
  refine aw_code f10bcc_eq ?_
  refine aw_then ?_
  refine aw_code f10bcca_eq ?_
  refine aw_reg ?_
  refine aops_go 1 60 (by kernel_rfl) ?_
  refine aops_call_to 18 35 #[v] H3_ (by kernel_rfl) (by kernel_rfl) (fun v => (by kernel_rfl)) (by kernel_rfl) (by kernel_rfl) (rdec_to (b := false) (hB.keep (by omega) (fun b hb => by rw [hH3_, Heap.get_put, if_neg (by omega), hH2_, Heap.get_push, if_neg (by omega), uH1_.get _ (by omega)])) hd rfl) ?_
  rintro _ H4_ ⟨rfl, uH4_⟩
  have nH4_ := uH4_.n
  refine aops_go 4 60 (by kernel_rfl) ?_
  obtain ⟨H5_, hH5_⟩ : ∃ x : Heap, x = H4_.push ⟨[Value.int .i64 0, .int .u32 0], 26, false⟩ := ⟨_, rfl⟩
  have nH5_ : H5_.n = H4_.n + 1 := by rw [hH5_]; rfl
  refine aops_val 6 (.pointer (some ⟨H4_.n, 0, none⟩)) H5_ (by kernel_rfl) (by kernel_rfl) (by kernel_rfl) ((by kernel_rfl : _ = some (Res.val (.pointer (some ⟨H4_.n, 0, none⟩)), H4_.push ⟨[Value.int .i64 0, .int .u32 0], 26, false⟩)).trans (by rw [← hH5_])) ?_
  have gH5_H4__n : H5_.get (H4_.n) = some ⟨[Value.int .i64 0, .int .u32 0], 26, false⟩ := by rw [hH5_]; exact (Heap.get_push _ _ _).trans (if_pos rfl)
  obtain ⟨H6_, hH6_⟩ : ∃ x : Heap, x = H5_.put (H4_.n) ⟨[Value.int .i64 a, .int .u32 N], 26, false⟩ := ⟨_, rfl⟩
  have nH6_ : H6_.n = H5_.n := by rw [hH6_]; rfl
  refine aops_skip H6_ (by kernel_rfl) (by kernel_rfl) (by kernel_rfl) ((by kernel_rfl : _ = skp (astore T20 26 (.pointer (some ⟨H4_.n, 0, none⟩)) (.agg #[.int .i64 a, .int .u32 N]) H5_)).trans (by rw [astore_to gH5_H4__n (by kernel_rfl), ← hH6_]; rfl)) ?_
  refine aops_go 2 60 (by kernel_rfl) ?_
  refine aops_end (by kernel_rfl) (then_normal ?_)
  refine aw_code f10bccc_eq ?_
  refine aw_then ?_
  refine aw_code f10bccca_eq ?_
  refine aw_reg ?_
  refine aops_go 1 60 (by kernel_rfl) ?_
  refine aops_end (by kernel_rfl) (then_normal ?_)
  refine aw_code f10bcccc_eq ?_
  refine aw_then ?_
  refine aw_code f10bcccca_eq ?_
  refine aw_then ?_
  refine aw_code f10bccccaa_eq ?_
  refine aw_reg ?_
  refine aops_go 2 60 (by kernel_rfl) ?_
  refine aops_end (by kernel_rfl) (then_normal ?_)
  refine aw_code f10bccccac_eq ?_
  refine aw_cond (t := true) (by kernel_rfl) ?_
  refine aw_code f10bccccaca_eq ?_
  refine aw_then ?_
  refine aw_code f10bccccacaa_eq ?_
  refine aw_reg ?_
  refine aops_go 1 60 (by kernel_rfl) ?_
  refine aops_end (by kernel_rfl) (then_normal ?_)
  refine aw_code f10bccccacac_eq ?_
  refine aw_then ?_
  refine aw_code f10bccccacaca_eq ?_
  refine aw_reg ?_
  refine aops_go 1 60 (by kernel_rfl) ?_
  refine aops_end (by kernel_rfl) (then_normal ?_)
  refine aw_code f10bccccacacc_eq ?_
  refine aw_cond (t := false) (by kernel_rfl) ?_
  refine aw_skip (then_normal ?_)
  refine aw_code f10bccccc_eq ?_
  refine aw_then ?_
  refine aw_code f10bccccca_eq ?_
  refine aw_reg ?_
  have gH6_H1__n : H6_.get (H1_.n) = some ⟨[Value.int .i64 a, .int .u32 N], 26, false⟩ := by rw [hH6_, Heap.get_put, if_neg (by omega)]; rw [hH5_, Heap.get_push, if_neg (by omega)]; rw [uH4_.get _ (by omega)]; rw [hH3_]; exact (Heap.get_put _ _ _ _).trans (if_pos rfl)
  refine aops_val 25 (.agg #[.int .i64 a, .int .u32 N]) H6_ (by kernel_rfl) (by kernel_rfl) (by kernel_rfl) ((by kernel_rfl : _ = val (aload T20 26 (.pointer (some ⟨H1_.n, 0, none⟩)) H6_) H6_).trans (val_of ((aload_at gH6_H1__n).trans (by kernel_rfl)))) ?_
  have gH6_H4__n : H6_.get (H4_.n) = some ⟨[Value.int .i64 a, .int .u32 N], 26, false⟩ := by rw [hH6_]; exact (Heap.get_put _ _ _ _).trans (if_pos rfl)
  refine aops_val 26 (.agg #[.int .i64 a, .int .u32 N]) H6_ (by kernel_rfl) (by kernel_rfl) (by kernel_rfl) ((by kernel_rfl : _ = val (aload T20 26 (.pointer (some ⟨H4_.n, 0, none⟩)) H6_) H6_).trans (val_of ((aload_at gH6_H4__n).trans (by kernel_rfl)))) ?_
  refine aops_go 2 60 (by kernel_rfl) ?_
  refine aops_see 28 (.bool true) (see_bool (by kernel_rfl) ((by simp) : ((((a : Int) == a) && (((N : Int) == N) && true))) = true)) ?_
  refine aops_go 10 60 (by kernel_rfl) ?_
  refine aops_end (by kernel_rfl) (then_normal ?_)
  refine aw_ret (bodyQ_ret_to (.bool true) H6_ (by kernel_rfl) (by kernel_rfl) ?_)
  exact ⟨rfl, by omega, fun b hb => by rw [hH6_, Heap.get_put, if_neg (by omega), hH5_, Heap.get_push, if_neg (by omega), uH4_.get _ (by omega), hH3_, Heap.get_put, if_neg (by omega), hH2_, Heap.get_push, if_neg (by omega), uH1_.get _ (by omega)]⟩
theorem reads_ok {H : Heap} {v : Value} {l : List Int} {a N sz : Int} (hB : Byts H v l) (hd : readL l = (a, N, sz, 0)) (hs : 0 < sz) : ACall Tryd.prog T20 10 #[v] H fun r H' => r = .bool true ∧ Up H.n H H' := by
  refine acall_of' 38 (initTm 0 #[v]) rfl f10_fn f10_body rfl rfl ?_
  refine aw_code f10b_eq ?_
  refine aw_then ?_
  refine aw_code f10ba_eq ?_
  refine aw_reg ?_
  refine aops_go 1 60 (by kernel_rfl) ?_
  refine aops_end (by kernel_rfl) (then_normal ?_)
  refine aw_code f10bc_eq ?_
  refine aw_then ?_
  refine aw_code f10bca_eq ?_
  refine aw_reg ?_
  refine aops_go 1 60 (by kernel_rfl) ?_
  refine aops_call_to 12 23 #[v] H (by kernel_rfl) (by kernel_rfl) (fun v => (by kernel_rfl)) (by kernel_rfl) (by kernel_rfl) (dec_to hB hd) ?_
  rintro _ H1_ ⟨rfl, uH1_⟩
  have nH1_ := uH1_.n
  refine aops_go 4 60 (by kernel_rfl) ?_
  obtain ⟨H2_, hH2_⟩ : ∃ x : Heap, x = H1_.push ⟨[Value.int .i64 0, .int .u32 0], 26, false⟩ := ⟨_, rfl⟩
  have nH2_ : H2_.n = H1_.n + 1 := by rw [hH2_]; rfl
  refine aops_val 3 (.pointer (some ⟨H1_.n, 0, none⟩)) H2_ (by kernel_rfl) (by kernel_rfl) (by kernel_rfl) ((by kernel_rfl : _ = some (Res.val (.pointer (some ⟨H1_.n, 0, none⟩)), H1_.push ⟨[Value.int .i64 0, .int .u32 0], 26, false⟩)).trans (by rw [← hH2_])) ?_
  have gH2_H1__n : H2_.get (H1_.n) = some ⟨[Value.int .i64 0, .int .u32 0], 26, false⟩ := by rw [hH2_]; exact (Heap.get_push _ _ _).trans (if_pos rfl)
  obtain ⟨H3_, hH3_⟩ : ∃ x : Heap, x = H2_.put (H1_.n) ⟨[Value.int .i64 a, .int .u32 N], 26, false⟩ := ⟨_, rfl⟩
  have nH3_ : H3_.n = H2_.n := by rw [hH3_]; rfl
  refine aops_skip H3_ (by kernel_rfl) (by kernel_rfl) (by kernel_rfl) ((by kernel_rfl : _ = skp (astore T20 26 (.pointer (some ⟨H1_.n, 0, none⟩)) (.agg #[.int .i64 a, .int .u32 N]) H2_)).trans (by rw [astore_to gH2_H1__n (by kernel_rfl), ← hH3_]; rfl)) ?_
  refine aops_go 2 60 (by kernel_rfl) ?_
  refine aops_end (by kernel_rfl) (then_normal ?_)
  refine aw_code f10bcc_eq ?_
  refine aw_then ?_
  refine aw_code f10bcca_eq ?_
  refine aw_reg ?_
  refine aops_go 1 60 (by kernel_rfl) ?_
  refine aops_call_to 18 35 #[v] H3_ (by kernel_rfl) (by kernel_rfl) (fun v => (by kernel_rfl)) (by kernel_rfl) (by kernel_rfl) (rdec_to (b := false) (hB.keep (by omega) (fun b hb => by rw [hH3_, Heap.get_put, if_neg (by omega), hH2_, Heap.get_push, if_neg (by omega), uH1_.get _ (by omega)])) hd rfl) ?_
  rintro _ H4_ ⟨rfl, uH4_⟩
  have nH4_ := uH4_.n
  refine aops_go 4 60 (by kernel_rfl) ?_
  obtain ⟨H5_, hH5_⟩ : ∃ x : Heap, x = H4_.push ⟨[Value.int .i64 0, .int .u32 0], 26, false⟩ := ⟨_, rfl⟩
  have nH5_ : H5_.n = H4_.n + 1 := by rw [hH5_]; rfl
  refine aops_val 6 (.pointer (some ⟨H4_.n, 0, none⟩)) H5_ (by kernel_rfl) (by kernel_rfl) (by kernel_rfl) ((by kernel_rfl : _ = some (Res.val (.pointer (some ⟨H4_.n, 0, none⟩)), H4_.push ⟨[Value.int .i64 0, .int .u32 0], 26, false⟩)).trans (by rw [← hH5_])) ?_
  have gH5_H4__n : H5_.get (H4_.n) = some ⟨[Value.int .i64 0, .int .u32 0], 26, false⟩ := by rw [hH5_]; exact (Heap.get_push _ _ _).trans (if_pos rfl)
  obtain ⟨H6_, hH6_⟩ : ∃ x : Heap, x = H5_.put (H4_.n) ⟨[Value.int .i64 a, .int .u32 N], 26, false⟩ := ⟨_, rfl⟩
  have nH6_ : H6_.n = H5_.n := by rw [hH6_]; rfl
  refine aops_skip H6_ (by kernel_rfl) (by kernel_rfl) (by kernel_rfl) ((by kernel_rfl : _ = skp (astore T20 26 (.pointer (some ⟨H4_.n, 0, none⟩)) (.agg #[.int .i64 a, .int .u32 N]) H5_)).trans (by rw [astore_to gH5_H4__n (by kernel_rfl), ← hH6_]; rfl)) ?_
  refine aops_go 2 60 (by kernel_rfl) ?_
  refine aops_end (by kernel_rfl) (then_normal ?_)
  refine aw_code f10bccc_eq ?_
  refine aw_then ?_
  refine aw_code f10bccca_eq ?_
  refine aw_reg ?_
  refine aops_go 1 60 (by kernel_rfl) ?_
  refine aops_end (by kernel_rfl) (then_normal ?_)
  refine aw_code f10bcccc_eq ?_
  refine aw_then ?_
  refine aw_code f10bcccca_eq ?_
  refine aw_then ?_
  refine aw_code f10bccccaa_eq ?_
  refine aw_reg ?_
  refine aops_go 2 60 (by kernel_rfl) ?_
  refine aops_end (by kernel_rfl) (then_normal ?_)
  refine aw_code f10bccccac_eq ?_
  refine aw_cond (t := false) (see_bool (by kernel_rfl) ((by simp; omega) : (((sz : Int) == 0)) = false)) ?_
  refine aw_skip (then_normal ?_)
  refine aw_code f10bccccc_eq ?_
  refine aw_then ?_
  refine aw_code f10bccccca_eq ?_
  refine aw_reg ?_
  have gH6_H1__n : H6_.get (H1_.n) = some ⟨[Value.int .i64 a, .int .u32 N], 26, false⟩ := by rw [hH6_, Heap.get_put, if_neg (by omega)]; rw [hH5_, Heap.get_push, if_neg (by omega)]; rw [uH4_.get _ (by omega)]; rw [hH3_]; exact (Heap.get_put _ _ _ _).trans (if_pos rfl)
  refine aops_val 25 (.agg #[.int .i64 a, .int .u32 N]) H6_ (by kernel_rfl) (by kernel_rfl) (by kernel_rfl) ((by kernel_rfl : _ = val (aload T20 26 (.pointer (some ⟨H1_.n, 0, none⟩)) H6_) H6_).trans (val_of ((aload_at gH6_H1__n).trans (by kernel_rfl)))) ?_
  have gH6_H4__n : H6_.get (H4_.n) = some ⟨[Value.int .i64 a, .int .u32 N], 26, false⟩ := by rw [hH6_]; exact (Heap.get_put _ _ _ _).trans (if_pos rfl)
  refine aops_val 26 (.agg #[.int .i64 a, .int .u32 N]) H6_ (by kernel_rfl) (by kernel_rfl) (by kernel_rfl) ((by kernel_rfl : _ = val (aload T20 26 (.pointer (some ⟨H4_.n, 0, none⟩)) H6_) H6_).trans (val_of ((aload_at gH6_H4__n).trans (by kernel_rfl)))) ?_
  refine aops_go 2 60 (by kernel_rfl) ?_
  refine aops_see 28 (.bool true) (see_bool (by kernel_rfl) ((by simp) : ((((a : Int) == a) && (((N : Int) == N) && true))) = true)) ?_
  refine aops_go 5 60 (by kernel_rfl) ?_
  refine aops_see 33 (.bool true) (see_bool (by kernel_rfl) ((by simp) : (((sz : Int) == sz)) = true)) ?_
  refine aops_go 5 60 (by kernel_rfl) ?_
  refine aops_end (by kernel_rfl) (then_normal ?_)
  refine aw_ret (bodyQ_ret_to (.bool true) H6_ (by kernel_rfl) (by kernel_rfl) ?_)
  exact ⟨rfl, by omega, fun b hb => by rw [hH6_, Heap.get_put, if_neg (by omega), hH5_, Heap.get_push, if_neg (by omega), uH4_.get _ (by omega), hH3_, Heap.get_put, if_neg (by omega), hH2_, Heap.get_push, if_neg (by omega), uH1_.get _ (by omega)]⟩
theorem reads_any {H : Heap} {v : Value} {l : List Int} (hB : Byts H v l) : ACall Tryd.prog T20 10 #[v] H fun r H' => r = .bool true ∧ Up H.n H H' := by
  rcases hd : readL l with ⟨a, N, s, e⟩
  have h := readL_in l
  rw [hd] at h
  rcases h with ⟨h1, h2⟩ | ⟨h1, h2⟩ | ⟨h1, h2, h3⟩
  · simp only at h1 h2; subst h1 h2; exact reads_end (sz := 1) hB hd (by omega)
  · simp only at h1 h2; subst h1 h2; exact reads_form (sz := 1) hB hd (by omega)
  · simp only at h1 h3; subst h3; exact reads_ok hB hd h1
end Gc
end Go.Proofs.YtpfmmckbfejfnaaDoor
