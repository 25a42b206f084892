/- Chapter 2: instructions and bytes, told as the document says. -/
import Derived.Test.YtpfmmckbfejfnaaDoorGy
namespace Go.Proofs.YtpfmmckbfejfnaaDoor
open Go Go.Ev Go.RowKit
set_option linter.unusedVariables false
set_option linter.unusedSimpArgs false
set_option maxRecDepth 100000
namespace Gc
theorem roomy_any {H : Heap} {v : Value} {l : List Int} (h : Byts H v l) (hll : l.length ≤ 140737488351232) : ACall Tryd.prog T20 12 #[v, .int .u8 165] H fun r H' => r = .slice (some ⟨H.n, 0, none⟩) (l.length + 80) (l.length + 80) ∧ H'.get H.n = some ⟨fillC l 80, 5, false⟩ ∧ H.n < H'.n ∧ Up H.n H H' := by
  rcases h.at_ with ⟨cap, rfl, rfl⟩ | ⟨A, off, cap, cells, e, ro, rfl, gA, hA, hb⟩
  · exact roomy_nil (l := []) hll rfl ⟨.inl rfl⟩
  · rcases Nat.eq_zero_or_pos l.length with h0 | h0
    · exact roomy_nil hll h0 ⟨.inr ⟨A, off, rfl, by rw [gA]; rfl, hA⟩⟩
    · exact roomy_own hll h0 gA hA hb
theorem opOf_size (n : Int) : sizeV (opOf n) = 1 ∨ sizeV (opOf n) = 2 ∨ sizeV (opOf n) = 5 := by
  have g := good_of n
  simp only [good, Bool.and_eq_true, Bool.or_eq_true, Bool.not_eq_true', beq_iff_eq] at g
  obtain ⟨⟨⟨⟨⟨_, _⟩, h⟩, _⟩, _⟩, _⟩ := g
  omega
noncomputable def f4b : Code := Tryd.f4.body.getD .skip
noncomputable def f4ba : Code := cl f4b
noncomputable def f4bao : Array Oper := opsOf f4ba
noncomputable def f4bc : Code := cr f4b
noncomputable def f4bca : Code := cl f4bc
noncomputable def f4bcao : Array Oper := opsOf f4bca
noncomputable def f4bcc : Code := cr f4bc
noncomputable def f4bcca : Code := cl f4bcc
noncomputable def f4bccao : Array Oper := opsOf f4bcca
theorem f4ba_eq : f4ba = .region 0 f4bao false := by kernel_rfl
theorem f4bca_eq : f4bca = .region 1 f4bcao false := by kernel_rfl
theorem f4bcca_eq : f4bcca = .region 2 f4bccao false := by kernel_rfl
theorem f4bcc_eq : f4bcc = .seq f4bcca .ret := by kernel_rfl
theorem f4bc_eq : f4bc = .seq f4bca f4bcc := by kernel_rfl
theorem f4b_eq : f4b = .seq f4ba f4bc := by kernel_rfl
theorem f4_body : Tryd.f4.body = some f4b := by kernel_rfl
theorem f4_fn : T20.fn 4 = some Tryd.f4 := by kernel_rfl
theorem tells_run {H : Heap} {op N n : Int} {pt : Option Addr} {cap : Nat} {l : List Int} (hN : u32B N = true) (hn : i64B n = true) (hll : l.length ≤ 140737488351232) (hb : ∀ x ∈ l, 0 ≤ x ∧ x < 256) (hW : Byts H (.slice pt l.length cap) l) : ACall Tryd.prog T20 4 #[.agg #[.int .i64 op, .int .u32 N], .slice pt l.length cap, .int .i64 n] H fun r H' => r = .bool true := by
  refine acall_of' 34 (initTm 0 #[.agg #[.int .i64 op, .int .u32 N], (.slice pt l.length cap), .int .i64 n]) rfl f4_fn f4_body rfl rfl ?_
  refine aw_code f4b_eq ?_
  refine aw_then ?_
  refine aw_code f4ba_eq ?_
  refine aw_reg ?_
  obtain ⟨H1_, hH1_⟩ : ∃ x : Heap, x = H.push ⟨[Value.int .i64 op, .int .u32 N], 26, false⟩ := ⟨_, rfl⟩
  have nH1_ : H1_.n = H.n + 1 := by rw [hH1_]; rfl
  refine aops_val 3 (.pointer (some ⟨H.n, 0, none⟩)) H1_ (by kernel_rfl) (by kernel_rfl) (by kernel_rfl) ((by kernel_rfl : _ = some (Res.val (.pointer (some ⟨H.n, 0, none⟩)), H.push ⟨[Value.int .i64 op, .int .u32 N], 26, false⟩)).trans (by rw [← hH1_])) ?_
  refine aops_go 1 60 (by kernel_rfl) ?_
  refine aops_end (by kernel_rfl) (then_normal ?_)
  refine aw_code f4bc_eq ?_
  refine aw_then ?_
  refine aw_code f4bca_eq ?_
  refine aw_reg ?_
  refine aops_go 1 60 (by kernel_rfl) ?_
  refine aops_call_to 9 12 #[(.slice pt l.length cap), .int .u8 165] H1_ (by kernel_rfl) (by kernel_rfl) (fun v => (by kernel_rfl)) (by kernel_rfl) (by kernel_rfl) (roomy_any (hW.keep (by omega) (fun b hb => by rw [hH1_, Heap.get_push, if_neg (by omega)])) hll) ?_
  rintro _ H2_ ⟨rfl, gB, hB, uH2_⟩
  have nH2_ := uH2_.n
  refine aops_go 1 60 (by kernel_rfl) ?_
  refine aops_end (by kernel_rfl) (then_normal ?_)
  refine aw_code f4bcc_eq ?_
  refine aw_then ?_
  refine aw_code f4bcca_eq ?_
  refine aw_reg ?_
  have gH2_H_n : H2_.get (H.n) = some ⟨[Value.int .i64 op, .int .u32 N], 26, false⟩ := by rw [uH2_.get _ (by omega)]; rw [hH1_]; exact (Heap.get_push _ _ _).trans (if_pos rfl)
  refine aops_val 10 (.agg #[.int .i64 op, .int .u32 N]) H2_ (by kernel_rfl) (by kernel_rfl) (by kernel_rfl) ((by kernel_rfl : _ = val (aload T20 26 (.pointer (some ⟨H.n, 0, none⟩)) H2_) H2_).trans (val_of ((aload_at gH2_H_n).trans (by kernel_rfl)))) ?_
  refine aops_call_to 11 9 #[.agg #[.int .i64 op, .int .u32 N]] H2_ (by kernel_rfl) (by kernel_rfl) (fun v => (by kernel_rfl)) (by kernel_rfl) (by kernel_rfl) (same_any op N hN H2_) ?_
  rintro _ H3_ ⟨rfl, uH3_⟩
  have nH3_ := uH3_.n
  refine aops_go 3 60 (by kernel_rfl) ?_
  have gH3_H_n : H3_.get (H.n) = some ⟨[Value.int .i64 op, .int .u32 N], 26, false⟩ := by rw [uH3_.get _ (by omega)]; exact gH2_H_n
  refine aops_val 15 (.int .u32 N) H3_ (by kernel_rfl) (by kernel_rfl) (by kernel_rfl) ((by kernel_rfl : _ = val (aload T20 22 (.pointer (some ⟨H.n, 1, none⟩)) H3_) H3_).trans (val_of ((aload_at gH3_H_n).trans (by kernel_rfl)))) ?_
  refine aops_ask 16 (.agg #[.int .i64 (opOf n), .int .u32 (numOf (opOf n) N)]) 13 #[.int .i64 n, .int .u32 N] (by kernel_rfl) (by kernel_rfl) (by kernel_rfl) (by kernel_rfl) (orc13 n N hn hN) ?_
  refine aops_call_to 17 9 #[.agg #[.int .i64 (opOf n), .int .u32 (numOf (opOf n) N)]] H3_ (by kernel_rfl) (by kernel_rfl) (fun v => (by kernel_rfl)) (by kernel_rfl) (by kernel_rfl) (same_any (opOf n) (numOf (opOf n) N) (num_right (opOf n) N hN (opOf_size n)).2 H3_) ?_
  rintro _ H4_ ⟨rfl, uH4_⟩
  have nH4_ := uH4_.n
  refine aops_go 5 60 (by kernel_rfl) ?_
  refine aops_val 23 (.slice (some ⟨H1_.n, 0, none⟩) l.length (l.length + 80)) H4_ (by kernel_rfl) (by kernel_rfl) (by kernel_rfl) (ha_sl (H := H4_) (t := 27) (x := .tmp 20) (lo := none) (hi := (some (.tmp 22))) (mx := none) (u := .slice (some ⟨H1_.n, 0, none⟩) (l.length + 80) (l.length + 80)) (l := none) (h := some (.int .i64 (Int.ofNat l.length))) (m := none) (by kernel_rfl) (by kernel_rfl) (by kernel_rfl) (by kernel_rfl) (by kernel_rfl) (by kernel_rfl) (aslice_hi (e := 5) l.length (by kernel_rfl) (by kernel_rfl) (by unfold unk; omega) (by omega) (by omega)) (by kernel_rfl)) ?_
  have gH4_H1__n : H4_.get (H1_.n) = some ⟨(fillC l 80), 5, false⟩ := by rw [uH4_.get _ (by omega)]; rw [uH3_.get _ (by omega)]; exact gB
  refine aops_call_to 24 10 #[.slice (some ⟨H1_.n, 0, none⟩) l.length (l.length + 80)] H4_ (by kernel_rfl) (by kernel_rfl) (fun v => (by kernel_rfl)) (by kernel_rfl) (by kernel_rfl) (reads_any (byts_full gH4_H1__n (by omega) hb)) ?_
  rintro _ H5_ ⟨rfl, uH5_⟩
  have nH5_ := uH5_.n
  refine aops_go 4 60 (by kernel_rfl) ?_
  have gH5_H1__n : H5_.get (H1_.n) = some ⟨(fillC l 80), 5, false⟩ := by rw [uH5_.get _ (by omega)]; exact gH4_H1__n
  refine aops_call_to 29 14 #[.slice (some ⟨H1_.n, 0, none⟩) (l.length + 80) (l.length + 80), (.slice pt l.length cap), .int .u8 165] H5_ (by kernel_rfl) (by kernel_rfl) (fun v => (by kernel_rfl)) (by kernel_rfl) (by kernel_rfl) (intact_any hll gH5_H1__n (by omega) hb (hW.keep (by omega) (fun b hb => by rw [uH5_.get _ (by omega), uH4_.get _ (by omega), uH3_.get _ (by omega), uH2_.get _ (by omega), hH1_, Heap.get_push, if_neg (by omega)]))) ?_
  rintro _ _ ⟨rfl, rfl⟩
  refine aops_go 2 60 (by kernel_rfl) ?_
  refine aops_ask 32 (.bool true) 11 #[] (by kernel_rfl) (by kernel_rfl) (by kernel_rfl) (by kernel_rfl) (by kernel_rfl) ?_
  refine aops_go 2 60 (by kernel_rfl) ?_
  refine aops_end (by kernel_rfl) (then_normal ?_)
  refine aw_ret (bodyQ_ret_to (.bool true) H5_ (by kernel_rfl) (by kernel_rfl) ?_)
  rfl
end Gc
end Go.Proofs.YtpfmmckbfejfnaaDoor
