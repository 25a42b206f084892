/- Chapter 2: of any bytes what is read is written as they stood. -/
import Derived.Test.YtpfmmckbfejfnaaDoorGr
namespace Go.Proofs.YtpfmmckbfejfnaaDoor
open Go Go.Ev Go.RowKit
set_option linter.unusedVariables false
set_option linter.unusedSimpArgs false
set_option maxRecDepth 100000
namespace Gc
noncomputable def f7b : Code := Tryd.f7.body.getD .skip
noncomputable def f7ba : Code := cl f7b
noncomputable def f7bao : Array Oper := opsOf f7ba
noncomputable def f7bc : Code := cr f7b
noncomputable def f7bca : Code := cl f7bc
noncomputable def f7bcao : Array Oper := opsOf f7bca
noncomputable def f7bcc : Code := cr f7bc
noncomputable def f7bcca : Code := cl f7bcc
noncomputable def f7bccao : Array Oper := opsOf f7bcca
noncomputable def f7bccc : Code := cr f7bcc
noncomputable def f7bccca : Code := cl f7bccc
noncomputable def f7bcccao : Array Oper := opsOf f7bccca
noncomputable def f7bcccc : Code := cr f7bccc
noncomputable def f7bcccca : Code := cl f7bcccc
noncomputable def f7bccccaa : Code := cl f7bcccca
noncomputable def f7bccccaao : Array Oper := opsOf f7bccccaa
noncomputable def f7bccccac : Code := cr f7bcccca
noncomputable def f7bccccaca : Code := cl f7bccccac
noncomputable def f7bccccacaa : Code := cl f7bccccaca
noncomputable def f7bccccacaao : Array Oper := opsOf f7bccccacaa
noncomputable def f7bccccc : Code := cr f7bcccc
noncomputable def f7bccccca : Code := cl f7bccccc
noncomputable def f7bcccccaa : Code := cl f7bccccca
noncomputable def f7bcccccaao : Array Oper := opsOf f7bcccccaa
noncomputable def f7bcccccac : Code := cr f7bccccca
noncomputable def f7bcccccaca : Code := cl f7bcccccac
noncomputable def f7bcccccacaa : Code := cl f7bcccccaca
noncomputable def f7bcccccacaao : Array Oper := opsOf f7bcccccacaa
noncomputable def f7bcccccacac : Code := cr f7bcccccaca
noncomputable def f7bcccccacaca : Code := cl f7bcccccacac
noncomputable def f7bcccccacacao : Array Oper := opsOf f7bcccccacaca
noncomputable def f7bcccccc : Code := cr f7bccccc
noncomputable def f7bcccccca : Code := cl f7bcccccc
noncomputable def f7bccccccao : Array Oper := opsOf f7bcccccca
theorem f7ba_eq : f7ba = .region 0 f7bao false := by kernel_rfl
theorem f7bca_eq : f7bca = .region 1 f7bcao false := by kernel_rfl
theorem f7bcca_eq : f7bcca = .region 2 f7bccao false := by kernel_rfl
theorem f7bccca_eq : f7bccca = .region 3 f7bcccao false := by kernel_rfl
theorem f7bccccaa_eq : f7bccccaa = .region 4 f7bccccaao true := by kernel_rfl
theorem f7bccccacaa_eq : f7bccccacaa = .region 5 f7bccccacaao false := by kernel_rfl
theorem f7bccccaca_eq : f7bccccaca = .seq f7bccccacaa .ret := by kernel_rfl
theorem f7bccccac_eq : f7bccccac = .cond (cop f7bccccac) f7bccccaca .skip := by kernel_rfl
theorem f7bcccca_eq : f7bcccca = .seq f7bccccaa f7bccccac := by kernel_rfl
theorem f7bcccccaa_eq : f7bcccccaa = .region 6 f7bcccccaao false := by kernel_rfl
theorem f7bcccccacaa_eq : f7bcccccacaa = .region 7 f7bcccccacaao false := by kernel_rfl
theorem f7bcccccacaca_eq : f7bcccccacaca = .region 8 f7bcccccacacao false := by kernel_rfl
theorem f7bcccccacac_eq : f7bcccccacac = .seq f7bcccccacaca .ret := by kernel_rfl
theorem f7bcccccaca_eq : f7bcccccaca = .seq f7bcccccacaa f7bcccccacac := by kernel_rfl
theorem f7bcccccac_eq : f7bcccccac = .cond (cop f7bcccccac) f7bcccccaca .skip := by kernel_rfl
theorem f7bccccca_eq : f7bccccca = .seq f7bcccccaa f7bcccccac := by kernel_rfl
theorem f7bcccccca_eq : f7bcccccca = .region 9 f7bccccccao false := by kernel_rfl
theorem f7bcccccc_eq : f7bcccccc = .seq f7bcccccca .ret := by kernel_rfl
theorem f7bccccc_eq : f7bccccc = .seq f7bccccca f7bcccccc := by kernel_rfl
theorem f7bcccc_eq : f7bcccc = .seq f7bcccca f7bccccc := by kernel_rfl
theorem f7bccc_eq : f7bccc = .seq f7bccca f7bcccc := by kernel_rfl
theorem f7bcc_eq : f7bcc = .seq f7bcca f7bccc := by kernel_rfl
theorem f7bc_eq : f7bc = .seq f7bca f7bcc := by kernel_rfl
theorem f7b_eq : f7b = .seq f7ba f7bc := by kernel_rfl
theorem f7_body : Tryd.f7.body = some f7b := by kernel_rfl
theorem f7_fn : T20.fn 7 = some Tryd.f7 := by kernel_rfl
theorem any_run {H : Heap} {pt : Option Addr} {cap : Nat} {l : List Int} (hB : Byts H (.slice pt l.length cap) l) (hC : CapV pt l.length cap) (hb : ∀ x ∈ l, 0 ≤ x ∧ x < 256) : ACall Tryd.prog T20 7 #[.slice pt l.length cap] H fun r H' => r = .bool true := by
  refine acall_of' 65 (initTm 0 #[(.slice pt l.length cap)]) rfl f7_fn f7_body rfl rfl ?_
  refine aw_code f7b_eq ?_
  refine aw_then ?_
  refine aw_code f7ba_eq ?_
  refine aw_reg ?_
  refine aops_go 1 60 (by kernel_rfl) ?_
  refine aops_end (by kernel_rfl) (then_normal ?_)
  refine aw_code f7bc_eq ?_
  refine aw_then ?_
  refine aw_code f7bca_eq ?_
  refine aw_reg ?_
  refine aops_go 1 60 (by kernel_rfl) ?_
  obtain ⟨l2, hl2⟩ : ∃ l2, l2 = l.take 200 := ⟨_, rfl⟩
  refine aops_call_to 11 24 #[(.slice pt l.length cap), .int .i64 ((200 : Nat) : Int)] H (by kernel_rfl) (by kernel_rfl) (fun v => (by kernel_rfl)) (by kernel_rfl) (by kernel_rfl) (cut_any hB hC) ?_
  rintro r0 _ ⟨rfl, pt0, cap0, hr0, hB0, hC0⟩
  rw [← hl2] at hr0 hB0 hC0
  subst hr0
  have hb2 : ∀ x ∈ l2, 0 ≤ x ∧ x < 256 := fun x hx => hb x (by rw [hl2] at hx; exact List.mem_of_mem_take hx)
  have hll2 : l2.length ≤ 200 := by rw [hl2]; simp; omega
  refine aops_go 1 60 (by kernel_rfl) ?_
  refine aops_end (by kernel_rfl) (then_normal ?_)
  refine aw_code f7bcc_eq ?_
  refine aw_then ?_
  refine aw_code f7bcca_eq ?_
  refine aw_reg ?_
  refine aops_go 1 60 (by kernel_rfl) ?_
  refine aops_call_to 14 22 #[(.slice pt0 l2.length cap0)] H (by kernel_rfl) (by kernel_rfl) (fun v => (by kernel_rfl)) (by kernel_rfl) (by kernel_rfl) (all_any hB0 hC0 hb2 (by omega)) ?_
  rintro _ H1_ ⟨is, e, ov, rfl, hdec, hne, hgr, uH1_⟩
  have nH1_ := uH1_.n
  have hel := hdec.le hb2
  obtain ⟨hj, hal, hun, hil⟩ := hdec.join hb2
  rcases hd : readL (l2.drop e) with ⟨a, N, sz, er⟩
  have hin := readL_in (l2.drop e)
  rw [hd] at hin hne
  simp only at hin hne
  obtain rfl : sz = 0 := by omega
  refine aops_go 5 60 (by kernel_rfl) ?_
  refine aops_end (by kernel_rfl) (then_normal ?_)
  refine aw_code f7bccc_eq ?_
  refine aw_then ?_
  refine aw_code f7bccca_eq ?_
  refine aw_reg ?_
  refine aops_go 1 60 (by kernel_rfl) ?_
  refine aops_call_to 19 21 #[ov] H1_ (by kernel_rfl) (by kernel_rfl) (fun v => (by kernel_rfl)) (by kernel_rfl) (by kernel_rfl) (join_any (Gr.ins hgr) (by omega)) ?_
  rintro r3 H2_ ⟨hj1, _, uH2_⟩
  have nH2_ := uH2_.n
  obtain ⟨bv, rfl, hgb⟩ := hj1 hal
  have hBc : Byts H2_ bv (List.take e l2) := by
    rw [hj, List.length_map] at hgb
    exact Gr.byts (fun x hx => hb2 x (List.mem_of_mem_take hx)) hgb
  refine aops_go 5 60 (by kernel_rfl) ?_
  refine aops_end (by kernel_rfl) (then_normal ?_)
  refine aw_code f7bcccc_eq ?_
  refine aw_then ?_
  refine aw_code f7bcccca_eq ?_
  refine aw_then ?_
  refine aw_code f7bccccaa_eq ?_
  refine aw_draw0w (by kernel_rfl) ?_
  refine aops_go 7 60 (by kernel_rfl) ?_
  refine aops_see 28 (.bool false) (see_bool (by kernel_rfl) ((by simp) : ((decide (((e : Nat) : Int) < 0))) = false)) ?_
  refine aops_go 6 60 (by kernel_rfl) ?_
  refine aops_see 34 (.bool false) (see_bool (by kernel_rfl) ((by simp; omega) : ((decide (((e : Nat) : Int) > ((l2.length : Nat) : Int)))) = false)) ?_
  refine aops_go 1 60 (by kernel_rfl) ?_
  refine aops_val 36 (.string (bstr (((List.take e l2)).map (Value.int .u8)))) H2_ (by kernel_rfl) (by kernel_rfl) (by kernel_rfl) (ha_cv (H := H2_) (s := 27) (d := 9) (x := .tmp 35) (u := bv) (by kernel_rfl) (by kernel_rfl) (by kernel_rfl) (conv_byts (e := 5) (by kernel_rfl) (by kernel_rfl) (by kernel_rfl) hBc) (by kernel_rfl)) ?_
  refine aops_go 2 60 (by kernel_rfl) ?_
  obtain ⟨pt1_, cap1_, hs1_, hB1_, hC1_⟩ := aslice_byts (T := T20) (t := 27) (e := 5) (by kernel_rfl) (by kernel_rfl) (hB0.keep (H' := H2_) (by omega) (fun b hb => by rw [uH2_.get _ (by omega), uH1_.get _ (by omega)])) hC0 0 e (vlo := none) (vhi := (some (.int .i64 (Int.ofNat e)))) (.inl ⟨rfl, rfl⟩) (.inr rfl) (by omega) (by omega)
  rw [List.drop_zero] at hB1_
  refine aops_val 39 (.slice pt1_ (e - 0) cap1_) H2_ (by kernel_rfl) (by kernel_rfl) (by kernel_rfl) (ha_sl (H := H2_) (t := 27) (x := .tmp 37) (lo := none) (hi := (some (.tmp 38))) (mx := none) (u := (.slice pt0 l2.length cap0)) (l := none) (h := (some (.int .i64 (Int.ofNat e)))) (m := none) (by kernel_rfl) (by kernel_rfl) (by kernel_rfl) (by kernel_rfl) (by kernel_rfl) (by kernel_rfl) hs1_ (by kernel_rfl)) ?_
  refine aops_val 40 (.string (bstr (((List.take e l2)).map (Value.int .u8)))) H2_ (by kernel_rfl) (by kernel_rfl) (by kernel_rfl) (ha_cv (H := H2_) (s := 27) (d := 9) (x := .tmp 39) (u := (.slice pt1_ (e - 0) cap1_)) (by kernel_rfl) (by kernel_rfl) (by kernel_rfl) (conv_byts (e := 5) (by kernel_rfl) (by kernel_rfl) (by kernel_rfl) hB1_) (by kernel_rfl)) ?_
  refine aops_val 41 (.bool (!(decide ((bstr (((List.take e l2)).map (Value.int .u8))) = (bstr (((List.take e l2)).map (Value.int .u8))))))) H2_ (by kernel_rfl) (by kernel_rfl) (by kernel_rfl) (ha_fb (op := .neq) (t := 9) (a := .tmp 36) (b := .tmp 40) (u := .string (bstr (((List.take e l2)).map (Value.int .u8)))) (v := .string (bstr (((List.take e l2)).map (Value.int .u8)))) (by kernel_rfl) (by kernel_rfl) (by kernel_rfl) rfl rfl rfl (sne_run (by rw [Bool.not_not])) rfl) ?_
  refine aops_go 1 60 (by kernel_rfl) ?_
  refine aops_end (by kernel_rfl) (then_normal ?_)
  refine aw_code f7bccccac_eq ?_
  refine aw_cond (t := false) (see_bool (by kernel_rfl) ((by simp) : ((!(decide ((bstr (((List.take e l2)).map (Value.int .u8))) = (bstr (((List.take e l2)).map (Value.int .u8))))))) = false)) ?_
  refine aw_skip (then_normal ?_)
  refine aw_code f7bccccc_eq ?_
  refine aw_then ?_
  refine aw_code f7bccccca_eq ?_
  refine aw_then ?_
  refine aw_code f7bcccccaa_eq ?_
  refine aw_reg ?_
  refine aops_go 4 60 (by kernel_rfl) ?_
  refine aops_end (by kernel_rfl) (then_normal ?_)
  refine aw_code f7bcccccac_eq ?_
  rcases Bool.eq_false_or_eq_true ((decide (((e : Nat) : Int) < ((l2.length : Nat) : Int)))) with hc1 | hc1
  · skip
    refine aw_cond (t := true) (see_bool (by kernel_rfl) hc1) ?_
    refine aw_code f7bcccccaca_eq ?_
    refine aw_then ?_
    refine aw_code f7bcccccacaa_eq ?_
    refine aw_reg ?_
    refine aops_go 2 60 (by kernel_rfl) ?_
    obtain ⟨pt2_, cap2_, hs2_, hB2_, hC2_⟩ := aslice_byts (T := T20) (t := 27) (e := 5) (by kernel_rfl) (by kernel_rfl) (hB0.keep (H' := H2_) (by omega) (fun b hb => by rw [uH2_.get _ (by omega), uH1_.get _ (by omega)])) hC0 e l2.length (vlo := (some (.int .i64 (Int.ofNat e)))) (vhi := none) (.inr rfl) (.inl ⟨rfl, rfl⟩) (by omega) (by omega)
    rw [List.take_length] at hB2_
    refine aops_val 50 (.slice pt2_ (l2.length - e) cap2_) H2_ (by kernel_rfl) (by kernel_rfl) (by kernel_rfl) (ha_sl (H := H2_) (t := 27) (x := .tmp 48) (lo := (some (.tmp 49))) (hi := none) (mx := none) (u := (.slice pt0 l2.length cap0)) (l := (some (.int .i64 (Int.ofNat e)))) (h := none) (m := none) (by kernel_rfl) (by kernel_rfl) (by kernel_rfl) (by kernel_rfl) (by kernel_rfl) (by kernel_rfl) hs2_ (by kernel_rfl)) ?_
    refine aops_call_to 51 23 #[(.slice pt2_ (l2.length - e) cap2_)] H2_ (by kernel_rfl) (by kernel_rfl) (fun v => (by kernel_rfl)) (by kernel_rfl) (by kernel_rfl) (dec_to hB2_ hd) ?_
    rintro _ H3_ ⟨rfl, uH3_⟩
    have nH3_ := uH3_.n
    refine aops_go 4 60 (by kernel_rfl) ?_
    obtain ⟨H4_, hH4_⟩ : ∃ x : Heap, x = H3_.push ⟨[Value.int .i64 0, .int .u32 0], 26, false⟩ := ⟨_, rfl⟩
    have nH4_ : H4_.n = H3_.n + 1 := by rw [hH4_]; rfl
    refine aops_val 7 (.pointer (some ⟨H3_.n, 0, none⟩)) H4_ (by kernel_rfl) (by kernel_rfl) (by kernel_rfl) ((by kernel_rfl : _ = some (Res.val (.pointer (some ⟨H3_.n, 0, none⟩)), H3_.push ⟨[Value.int .i64 0, .int .u32 0], 26, false⟩)).trans (by rw [← hH4_])) ?_
    have gH4_H3__n : H4_.get (H3_.n) = some ⟨[Value.int .i64 0, .int .u32 0], 26, false⟩ := by rw [hH4_]; exact (Heap.get_push _ _ _).trans (if_pos rfl)
    obtain ⟨H5_, hH5_⟩ : ∃ x : Heap, x = H4_.put (H3_.n) ⟨[Value.int .i64 a, .int .u32 N], 26, false⟩ := ⟨_, rfl⟩
    have nH5_ : H5_.n = H4_.n := by rw [hH5_]; rfl
    refine aops_skip H5_ (by kernel_rfl) (by kernel_rfl) (by kernel_rfl) ((by kernel_rfl : _ = skp (astore T20 26 (.pointer (some ⟨H3_.n, 0, none⟩)) (.agg #[.int .i64 a, .int .u32 N]) H4_)).trans (by rw [astore_to gH4_H3__n (by kernel_rfl), ← hH5_]; rfl)) ?_
    refine aops_go 2 60 (by kernel_rfl) ?_
    refine aops_end (by kernel_rfl) (then_normal ?_)
    refine aw_code f7bcccccacac_eq ?_
    refine aw_then ?_
    refine aw_code f7bcccccacaca_eq ?_
    refine aw_reg ?_
    refine aops_go 7 60 (by kernel_rfl) ?_
    refine aops_see 61 (.bool true) (see_bool (by kernel_rfl) ((by simpa using hne) : (((er : Int) != 0)) = true)) ?_
    refine aops_ask 62 (.bool true) 11 #[] (by kernel_rfl) (by kernel_rfl) (by kernel_rfl) (by kernel_rfl) (by kernel_rfl) ?_
    refine aops_go 2 60 (by kernel_rfl) ?_
    refine aops_end (by kernel_rfl) (then_normal ?_)
    refine aw_ret (then_ret (bodyQ_ret_to (.bool true) H5_ (by kernel_rfl) (by kernel_rfl) ?_))
    rfl
  · skip
    refine aw_cond (t := false) (see_bool (by kernel_rfl) hc1) ?_
    refine aw_skip (then_normal ?_)
    refine aw_code f7bcccccc_eq ?_
    refine aw_then ?_
    refine aw_code f7bcccccca_eq ?_
    refine aw_reg ?_
    refine aops_ask 64 (.bool true) 11 #[] (by kernel_rfl) (by kernel_rfl) (by kernel_rfl) (by kernel_rfl) (by kernel_rfl) ?_
    refine aops_go 1 60 (by kernel_rfl) ?_
    refine aops_end (by kernel_rfl) (then_normal ?_)
    refine aw_ret (bodyQ_ret_to (.bool true) H2_ (by kernel_rfl) (by kernel_rfl) ?_)
    rfl
end Gc
end Go.Proofs.YtpfmmckbfejfnaaDoor
