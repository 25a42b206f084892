/- Chapter 2: the runs. -/
import Derived.Test.YtpfmmckbfejfnaaDoorGv
import Derived.Test.YtpfmmckbfejfnaaDoorGk
namespace Go.Proofs.YtpfmmckbfejfnaaDoor
open Go Go.Ev Go.RowKit
set_option linter.unusedVariables false
set_option linter.unusedSimpArgs false
set_option maxRecDepth 100000
namespace Gc
theorem byts_nil (H : Heap) (cap : Nat) : Byts H (.slice none 0 cap) [] := ⟨.inl ⟨cap, rfl, rfl⟩⟩
/-- A slice of bytes within a block. -/
theorem byts_of {H : Heap} {A off cap : Nat} {cells : List Value} {e : TypeId} {ro : Bool} {l : List Int} (gA : H.get A = some ⟨cells, e, ro⟩) (hA : A < H.n) (hb : ∀ k (h : k < l.length), cells[off + k * 1]? = some (.int .u8 l[k]) ∧ 0 ≤ l[k] ∧ l[k] < 256) : Byts H (.slice (some ⟨A, off, none⟩) l.length cap) l :=
  ⟨.inr ⟨A, off, cap, cells, e, ro, rfl, gA, hA, hb⟩⟩
theorem byts_six {H : Heap} {B : Nat} {x : Int} {ro : Bool} (k : Nat) (gB : H.get B = some ⟨[.int .u8 (IntKind.u8.wrap x), .int .u8 1, .int .u8 2, .int .u8 3, .int .u8 4, .int .u8 5], 5, ro⟩) (hB : B < H.n) (hk : k ≤ 6) : Byts H (.slice (some ⟨B, 0, none⟩) k 6) ([IntKind.u8.wrap x, 1, 2, 3, 4, 5].take k) := by
  have hl : ([IntKind.u8.wrap x, 1, 2, 3, 4, 5].take k).length = k := by simp; omega
  have := byts_of (cap := 6) (off := 0) (l := [IntKind.u8.wrap x, 1, 2, 3, 4, 5].take k) gB hB fun j h => by
    have hj : j < 6 := by omega
    rw [List.getElem_take]
    have hw : 0 ≤ IntKind.u8.wrap x ∧ IntKind.u8.wrap x < 256 := by rw [IntKind.wrap_u8]; omega
    match j, hj with
    | 0, _ => exact ⟨rfl, hw.1, hw.2⟩
    | 1, _ => exact ⟨rfl, by simp, by simp⟩
    | 2, _ => exact ⟨rfl, by simp, by simp⟩
    | 3, _ => exact ⟨rfl, by simp, by simp⟩
    | 4, _ => exact ⟨rfl, by simp, by simp⟩
    | 5, _ => exact ⟨rfl, by simp, by simp⟩
  rw [hl] at this
  exact this
noncomputable def f3b : Code := Tryd.f3.body.getD .skip
noncomputable def f3ba : Code := cl f3b
noncomputable def f3bao : Array Oper := opsOf f3ba
noncomputable def f3bc : Code := cr f3b
noncomputable def f3bca : Code := cl f3bc
noncomputable def f3bcaa : Code := cl f3bca
noncomputable def f3bcaao : Array Oper := opsOf f3bcaa
noncomputable def f3bcac : Code := cr f3bca
noncomputable def f3bcaca : Code := cl f3bcac
noncomputable def f3bcacaa : Code := cl f3bcaca
noncomputable def f3bcacaaa : Code := cl f3bcacaa
noncomputable def f3bcacaaaa : Code := cl f3bcacaaa
noncomputable def f3bcacaaaao : Array Oper := opsOf f3bcacaaaa
noncomputable def f3bcacaaac : Code := cr f3bcacaaa
noncomputable def f3bcacaac : Code := cr f3bcacaa
noncomputable def f3bcacaaca : Code := cl f3bcacaac
noncomputable def f3bcacaacaa : Code := cl f3bcacaaca
noncomputable def f3bcacaacaaa : Code := cl f3bcacaacaa
noncomputable def f3bcacaacaaaa : Code := cl f3bcacaacaaa
noncomputable def f3bcacaacaaaao : Array Oper := opsOf f3bcacaacaaaa
noncomputable def f3bcacaacaaac : Code := cr f3bcacaacaaa
noncomputable def f3bcacaacaaaca : Code := cl f3bcacaacaaac
noncomputable def f3bcacaacaaacaa : Code := cl f3bcacaacaaaca
noncomputable def f3bcacaacaaacaaa : Code := cl f3bcacaacaaacaa
noncomputable def f3bcacaacaaacaaao : Array Oper := opsOf f3bcacaacaaacaaa
noncomputable def f3bcacaacaaacaac : Code := cr f3bcacaacaaacaa
noncomputable def f3bcacaacaaacaaca : Code := cl f3bcacaacaaacaac
noncomputable def f3bcacaacaaacaacc : Code := cr f3bcacaacaaacaac
noncomputable def f3bcacaacaaacaacca : Code := cl f3bcacaacaaacaacc
noncomputable def f3bcacaacaaacaaccaa : Code := cl f3bcacaacaaacaacca
noncomputable def f3bcacaacaaacaaccaaa : Code := cl f3bcacaacaaacaaccaa
noncomputable def f3bcacaacaaacaaccaaao : Array Oper := opsOf f3bcacaacaaacaaccaaa
noncomputable def f3bcacaacaaacaaccaac : Code := cr f3bcacaacaaacaaccaa
noncomputable def f3bcacaacaaacaaccaaca : Code := cl f3bcacaacaaacaaccaac
noncomputable def f3bcacaacaaacaaccaacao : Array Oper := opsOf f3bcacaacaaacaaccaaca
noncomputable def f3bcacaacaaacaaccaacc : Code := cr f3bcacaacaaacaaccaac
noncomputable def f3bcacaacaaacaaccaacca : Code := cl f3bcacaacaaacaaccaacc
noncomputable def f3bcacaacaaacaaccaaccaa : Code := cl f3bcacaacaaacaaccaacca
noncomputable def f3bcacaacaaacaaccaaccaao : Array Oper := opsOf f3bcacaacaaacaaccaaccaa
noncomputable def f3bcacaacaaacaaccc : Code := cr f3bcacaacaaacaacc
noncomputable def f3bcacaacaaacaaccco : Array Oper := opsOf f3bcacaacaaacaaccc
noncomputable def f3bcacaacaac : Code := cr f3bcacaacaa
noncomputable def f3bcacaacaaca : Code := cl f3bcacaacaac
noncomputable def f3bcacaacaacao : Array Oper := opsOf f3bcacaacaaca
noncomputable def f3bcacaacaacc : Code := cr f3bcacaacaac
noncomputable def f3bcacaacaacca : Code := cl f3bcacaacaacc
noncomputable def f3bcacaacaaccao : Array Oper := opsOf f3bcacaacaacca
noncomputable def f3bcacaacaaccc : Code := cr f3bcacaacaacc
noncomputable def f3bcacaacaaccca : Code := cl f3bcacaacaaccc
noncomputable def f3bcacaacaacccaa : Code := cl f3bcacaacaaccca
noncomputable def f3bcacaacaacccaaa : Code := cl f3bcacaacaacccaa
noncomputable def f3bcacaacaacccaaaa : Code := cl f3bcacaacaacccaaa
noncomputable def f3bcacaacaacccaaaao : Array Oper := opsOf f3bcacaacaacccaaaa
noncomputable def f3bcacaacaacccaaac : Code := cr f3bcacaacaacccaaa
noncomputable def f3bcacaacaacccaac : Code := cr f3bcacaacaacccaa
noncomputable def f3bcacaacaacccaaca : Code := cl f3bcacaacaacccaac
noncomputable def f3bcacaacaacccaacaa : Code := cl f3bcacaacaacccaaca
noncomputable def f3bcacaacaacccaacaaa : Code := cl f3bcacaacaacccaacaa
noncomputable def f3bcacaacaacccaacaaao : Array Oper := opsOf f3bcacaacaacccaacaaa
noncomputable def f3bcacaacaacccaacaac : Code := cr f3bcacaacaacccaacaa
noncomputable def f3bcacaacaacccaacaaca : Code := cl f3bcacaacaacccaacaac
noncomputable def f3bcacaacaacccaacaacaa : Code := cl f3bcacaacaacccaacaaca
noncomputable def f3bcacaacaacccaacaacaao : Array Oper := opsOf f3bcacaacaacccaacaacaa
noncomputable def f3bcacaacaacccaacc : Code := cr f3bcacaacaacccaac
noncomputable def f3bcacaacaacccaacco : Array Oper := opsOf f3bcacaacaacccaacc
noncomputable def f3bcacaacc : Code := cr f3bcacaac
noncomputable def f3bcacaacco : Array Oper := opsOf f3bcacaacc
noncomputable def f3bcc : Code := cr f3bc
noncomputable def f3bcca : Code := cl f3bcc
noncomputable def f3bccao : Array Oper := opsOf f3bcca
theorem f3ba_eq : f3ba = .region 0 f3bao false := by kernel_rfl
theorem f3bcaa_eq : f3bcaa = .region 1 f3bcaao false := by kernel_rfl
theorem f3bcacaaaa_eq : f3bcacaaaa = .region 2 f3bcacaaaao false := by kernel_rfl
theorem f3bcacaaac_eq : f3bcacaaac = .cond (cop f3bcacaaac) .skip (.exit 0) := by kernel_rfl
theorem f3bcacaaa_eq : f3bcacaaa = .seq f3bcacaaaa f3bcacaaac := by kernel_rfl
theorem f3bcacaacaaaa_eq : f3bcacaacaaaa = .region 4 f3bcacaacaaaao false := by kernel_rfl
theorem f3bcacaacaaacaaa_eq : f3bcacaacaaacaaa = .region 5 f3bcacaacaaacaaao false := by kernel_rfl
theorem f3bcacaacaaacaaca_eq : f3bcacaacaaacaaca = .cond (cop f3bcacaacaaacaaca) .skip (.exit 2) := by kernel_rfl
theorem f3bcacaacaaacaaccaaa_eq : f3bcacaacaaacaaccaaa = .region 6 f3bcacaacaaacaaccaaao false := by kernel_rfl
theorem f3bcacaacaaacaaccaaca_eq : f3bcacaacaaacaaccaaca = .region 7 f3bcacaacaaacaaccaacao false := by kernel_rfl
theorem f3bcacaacaaacaaccaaccaa_eq : f3bcacaacaaacaaccaaccaa = .region 8 f3bcacaacaaacaaccaaccaao false := by kernel_rfl
theorem f3bcacaacaaacaaccaacca_eq : f3bcacaacaaacaaccaacca = .seq f3bcacaacaaacaaccaaccaa .ret := by kernel_rfl
theorem f3bcacaacaaacaaccaacc_eq : f3bcacaacaaacaaccaacc = .cond (cop f3bcacaacaaacaaccaacc) f3bcacaacaaacaaccaacca .skip := by kernel_rfl
theorem f3bcacaacaaacaaccaac_eq : f3bcacaacaaacaaccaac = .seq f3bcacaacaaacaaccaaca f3bcacaacaaacaaccaacc := by kernel_rfl
theorem f3bcacaacaaacaaccaa_eq : f3bcacaacaaacaaccaa = .seq f3bcacaacaaacaaccaaa f3bcacaacaaacaaccaac := by kernel_rfl
theorem f3bcacaacaaacaacca_eq : f3bcacaacaaacaacca = .block 3 f3bcacaacaaacaaccaa := by kernel_rfl
theorem f3bcacaacaaacaaccc_eq : f3bcacaacaaacaaccc = .region 9 f3bcacaacaaacaaccco false := by kernel_rfl
theorem f3bcacaacaaacaacc_eq : f3bcacaacaaacaacc = .seq f3bcacaacaaacaacca f3bcacaacaaacaaccc := by kernel_rfl
theorem f3bcacaacaaacaac_eq : f3bcacaacaaacaac = .seq f3bcacaacaaacaaca f3bcacaacaaacaacc := by kernel_rfl
theorem f3bcacaacaaacaa_eq : f3bcacaacaaacaa = .seq f3bcacaacaaacaaa f3bcacaacaaacaac := by kernel_rfl
theorem f3bcacaacaaaca_eq : f3bcacaacaaaca = .loop f3bcacaacaaacaa := by kernel_rfl
theorem f3bcacaacaaac_eq : f3bcacaacaaac = .block 2 f3bcacaacaaaca := by kernel_rfl
theorem f3bcacaacaaa_eq : f3bcacaacaaa = .seq f3bcacaacaaaa f3bcacaacaaac := by kernel_rfl
theorem f3bcacaacaaca_eq : f3bcacaacaaca = .region 10 f3bcacaacaacao false := by kernel_rfl
theorem f3bcacaacaacca_eq : f3bcacaacaacca = .region 11 f3bcacaacaaccao false := by kernel_rfl
theorem f3bcacaacaacccaaaa_eq : f3bcacaacaacccaaaa = .region 12 f3bcacaacaacccaaaao false := by kernel_rfl
theorem f3bcacaacaacccaaac_eq : f3bcacaacaacccaaac = .cond (cop f3bcacaacaacccaaac) .skip (.exit 4) := by kernel_rfl
theorem f3bcacaacaacccaaa_eq : f3bcacaacaacccaaa = .seq f3bcacaacaacccaaaa f3bcacaacaacccaaac := by kernel_rfl
theorem f3bcacaacaacccaacaaa_eq : f3bcacaacaacccaacaaa = .region 14 f3bcacaacaacccaacaaao false := by kernel_rfl
theorem f3bcacaacaacccaacaacaa_eq : f3bcacaacaacccaacaacaa = .region 15 f3bcacaacaacccaacaacaao false := by kernel_rfl
theorem f3bcacaacaacccaacaaca_eq : f3bcacaacaacccaacaaca = .seq f3bcacaacaacccaacaacaa .ret := by kernel_rfl
theorem f3bcacaacaacccaacaac_eq : f3bcacaacaacccaacaac = .cond (cop f3bcacaacaacccaacaac) f3bcacaacaacccaacaaca .skip := by kernel_rfl
theorem f3bcacaacaacccaacaa_eq : f3bcacaacaacccaacaa = .seq f3bcacaacaacccaacaaa f3bcacaacaacccaacaac := by kernel_rfl
theorem f3bcacaacaacccaaca_eq : f3bcacaacaacccaaca = .block 5 f3bcacaacaacccaacaa := by kernel_rfl
theorem f3bcacaacaacccaacc_eq : f3bcacaacaacccaacc = .region 13 f3bcacaacaacccaacco false := by kernel_rfl
theorem f3bcacaacaacccaac_eq : f3bcacaacaacccaac = .seq f3bcacaacaacccaaca f3bcacaacaacccaacc := by kernel_rfl
theorem f3bcacaacaacccaa_eq : f3bcacaacaacccaa = .seq f3bcacaacaacccaaa f3bcacaacaacccaac := by kernel_rfl
theorem f3bcacaacaaccca_eq : f3bcacaacaaccca = .loop f3bcacaacaacccaa := by kernel_rfl
theorem f3bcacaacaaccc_eq : f3bcacaacaaccc = .block 4 f3bcacaacaaccca := by kernel_rfl
theorem f3bcacaacaacc_eq : f3bcacaacaacc = .seq f3bcacaacaacca f3bcacaacaaccc := by kernel_rfl
theorem f3bcacaacaac_eq : f3bcacaacaac = .seq f3bcacaacaaca f3bcacaacaacc := by kernel_rfl
theorem f3bcacaacaa_eq : f3bcacaacaa = .seq f3bcacaacaaa f3bcacaacaac := by kernel_rfl
theorem f3bcacaaca_eq : f3bcacaaca = .block 1 f3bcacaacaa := by kernel_rfl
theorem f3bcacaacc_eq : f3bcacaacc = .region 3 f3bcacaacco false := by kernel_rfl
theorem f3bcacaac_eq : f3bcacaac = .seq f3bcacaaca f3bcacaacc := by kernel_rfl
theorem f3bcacaa_eq : f3bcacaa = .seq f3bcacaaa f3bcacaac := by kernel_rfl
theorem f3bcaca_eq : f3bcaca = .loop f3bcacaa := by kernel_rfl
theorem f3bcac_eq : f3bcac = .block 0 f3bcaca := by kernel_rfl
theorem f3bca_eq : f3bca = .seq f3bcaa f3bcac := by kernel_rfl
theorem f3bcca_eq : f3bcca = .region 16 f3bccao false := by kernel_rfl
theorem f3bcc_eq : f3bcc = .seq f3bcca .ret := by kernel_rfl
theorem f3bc_eq : f3bc = .seq f3bca f3bcc := by kernel_rfl
theorem f3b_eq : f3b = .seq f3ba f3bc := by kernel_rfl
theorem f3_body : Tryd.f3.body = some f3b := by kernel_rfl
theorem f3_fn : T20.fn 3 = some Tryd.f3 := by kernel_rfl
set_option maxHeartbeats 1000000 in
theorem numbers_run {H : Heap} : ACall Tryd.prog T20 3 #[] H fun r H' => r = .bool true := by
  refine acall_of' 40 (initTm 0 #[]) rfl f3_fn f3_body rfl rfl ?_
  refine aw_code f3b_eq ?_
  refine aw_then ?_
  refine aw_code f3ba_eq ?_
  refine aw_reg ?_
  refine aops_go 1 60 (by kernel_rfl) ?_
  refine aops_end (by kernel_rfl) (then_normal ?_)
  refine aw_code f3bc_eq ?_
  refine aw_then ?_
  refine aw_code f3bca_eq ?_
  refine aw_then ?_
  refine aw_code f3bcaa_eq ?_
  refine aw_reg ?_
  refine aops_go 1 60 (by kernel_rfl) ?_
  refine aops_end (by kernel_rfl) (then_normal ?_)
  refine aw_code f3bcac_eq ?_
  refine aw_block ?_
  refine aw_code f3bcaca_eq ?_
  refine aw_loop (fun m st => ∃ (op : Int) (H1 : Heap), m = (260 - op).toNat ∧ -2 ≤ op ∧ op ≤ 260 ∧ Kn st.tm [(0, .bool false), (1, .int .i64 op)] ∧ st.H = H1 ∧ Up H.n H H1) 262 ⟨-2, H, by omega, by omega, by omega, ⟨by kernel_rfl, by kernel_rfl, True.intro⟩, by kernel_rfl, Up.refl H⟩ ?_
  rintro m st ⟨op, H1, hm, hl1, hl2, hkn, hH, hup⟩
  have nH1 := hup.n
  refine aw_kn' [(0, .bool false), (1, .int .i64 op)] hkn hH fun tm => ?_
  by_cases hk : op < 260
  · skip
    refine aw_code f3bcacaa_eq ?_
    refine aw_then ?_
    refine aw_code f3bcacaaa_eq ?_
    refine aw_then ?_
    refine aw_code f3bcacaaaa_eq ?_
    refine aw_reg ?_
    refine aops_go 2 60 (by kernel_rfl) ?_
    refine aops_end (by kernel_rfl) (then_normal ?_)
    refine aw_code f3bcacaaac_eq ?_
    refine aw_cond (t := true) (see_bool (by kernel_rfl) ((by simpa using hk) : ((decide ((op : Int) < 260))) = true)) ?_
    refine aw_skip (then_normal ?_)
    refine aw_code f3bcacaac_eq ?_
    refine aw_then ?_
    refine aw_code f3bcacaaca_eq ?_
    refine aw_block ?_
    refine aw_code f3bcacaacaa_eq ?_
    refine aw_then ?_
    refine aw_code f3bcacaacaaa_eq ?_
    refine aw_then ?_
    refine aw_code f3bcacaacaaaa_eq ?_
    refine aw_reg ?_
    obtain ⟨H1_, hH1_⟩ : ∃ x : Heap, x = H1.push ⟨[Value.int .u32 0, .int .u32 1, .int .u32 255, .int .u32 256, .int .u32 4294967295], 22, false⟩ := ⟨_, rfl⟩
    have nH1_ : H1_.n = H1.n + 1 := by rw [hH1_]; rfl
    refine aops_val 10 (.slice (some ⟨H1.n, 0, none⟩) 5 5) H1_ (by kernel_rfl) (by kernel_rfl) (by kernel_rfl) ((by kernel_rfl : _ = some (Res.val (.slice (some ⟨H1.n, 0, none⟩) 5 5), H1.push ⟨[Value.int .u32 0, .int .u32 1, .int .u32 255, .int .u32 256, .int .u32 4294967295], 22, false⟩)).trans (by rw [← hH1_])) ?_
    refine aops_go 2 60 (by kernel_rfl) ?_
    refine aops_end (by kernel_rfl) (then_normal ?_)
    refine aw_code f3bcacaacaaac_eq ?_
    refine aw_block ?_
    refine aw_code f3bcacaacaaaca_eq ?_
    refine aw_loop_k fun K1_ hK1_ => ?_
    refine aw_code f3bcacaacaaacaa_eq ?_
    refine aw_then ?_
    refine aw_code f3bcacaacaaacaaa_eq ?_
    refine aw_reg ?_
    refine aops_go 1 60 (by kernel_rfl) ?_
    refine aops_end (by kernel_rfl) (then_normal ?_)
    refine aw_code f3bcacaacaaacaac_eq ?_
    refine aw_then ?_
    refine aw_code f3bcacaacaaacaaca_eq ?_
    refine aw_cond (t := true) (by kernel_rfl) ?_
    refine aw_skip (then_normal ?_)
    refine aw_code f3bcacaacaaacaacc_eq ?_
    refine aw_then ?_
    refine aw_code f3bcacaacaaacaacca_eq ?_
    refine aw_block ?_
    refine aw_code f3bcacaacaaacaaccaa_eq ?_
    refine aw_then ?_
    refine aw_code f3bcacaacaaacaaccaaa_eq ?_
    refine aw_reg ?_
    refine aops_go 1 60 (by kernel_rfl) ?_
    have gH1_H1_n : H1_.get (H1.n) = some ⟨[Value.int .u32 0, .int .u32 1, .int .u32 255, .int .u32 256, .int .u32 4294967295], 22, false⟩ := by rw [hH1_]; exact (Heap.get_push _ _ _).trans (if_pos rfl)
    refine aops_val 15 (.int .u32 0) H1_ (by kernel_rfl) (by kernel_rfl) (by kernel_rfl) ((by kernel_rfl : _ = val (aload T20 22 (.pointer (some ⟨H1.n, 0, none⟩)) H1_) H1_).trans (val_of ((aload_at gH1_H1_n).trans (by kernel_rfl)))) ?_
    refine aops_go 1 60 (by kernel_rfl) ?_
    refine aops_end (by kernel_rfl) (then_normal ?_)
    refine aw_code f3bcacaacaaacaaccaac_eq ?_
    refine aw_then ?_
    refine aw_code f3bcacaacaaacaaccaaca_eq ?_
    refine aw_reg ?_
    refine aops_go 3 60 (by kernel_rfl) ?_
    refine aops_call_to 19 9 #[.agg #[.int .i64 op, .int .u32 0]] H1_ (by kernel_rfl) (by kernel_rfl) (fun v => (by kernel_rfl)) (by kernel_rfl) (by kernel_rfl) (same_any op 0 (by first | rfl | assumption) H1_) ?_
    rintro _ H2_ ⟨rfl, uH2_⟩
    have nH2_ := uH2_.n
    refine aops_go 1 60 (by kernel_rfl) ?_
    refine aops_end (by kernel_rfl) (then_normal ?_)
    refine aw_code f3bcacaacaaacaaccaacc_eq ?_
    refine aw_cond (t := false) (by kernel_rfl) ?_
    refine aw_skip (blk_normal (then_normal ?_))
    refine aw_code f3bcacaacaaacaaccc_eq ?_
    refine aw_reg ?_
    refine aops_go 2 60 (by kernel_rfl) ?_
    refine aops_end (by kernel_rfl) (then_normal (hK1_ _ ?_))
    refine aw_loop_k fun K2_ hK2_ => ?_
    refine aw_code f3bcacaacaaacaa_eq ?_
    refine aw_then ?_
    refine aw_code f3bcacaacaaacaaa_eq ?_
    refine aw_reg ?_
    refine aops_go 1 60 (by kernel_rfl) ?_
    refine aops_end (by kernel_rfl) (then_normal ?_)
    refine aw_code f3bcacaacaaacaac_eq ?_
    refine aw_then ?_
    refine aw_code f3bcacaacaaacaaca_eq ?_
    refine aw_cond (t := true) (by kernel_rfl) ?_
    refine aw_skip (then_normal ?_)
    refine aw_code f3bcacaacaaacaacc_eq ?_
    refine aw_then ?_
    refine aw_code f3bcacaacaaacaacca_eq ?_
    refine aw_block ?_
    refine aw_code f3bcacaacaaacaaccaa_eq ?_
    refine aw_then ?_
    refine aw_code f3bcacaacaaacaaccaaa_eq ?_
    refine aw_reg ?_
    refine aops_go 1 60 (by kernel_rfl) ?_
    have gH2_H1_n : H2_.get (H1.n) = some ⟨[Value.int .u32 0, .int .u32 1, .int .u32 255, .int .u32 256, .int .u32 4294967295], 22, false⟩ := by rw [uH2_.get _ (by omega)]; exact gH1_H1_n
    refine aops_val 15 (.int .u32 1) H2_ (by kernel_rfl) (by kernel_rfl) (by kernel_rfl) ((by kernel_rfl : _ = val (aload T20 22 (.pointer (some ⟨H1.n, 1, none⟩)) H2_) H2_).trans (val_of ((aload_at gH2_H1_n).trans (by kernel_rfl)))) ?_
    refine aops_go 1 60 (by kernel_rfl) ?_
    refine aops_end (by kernel_rfl) (then_normal ?_)
    refine aw_code f3bcacaacaaacaaccaac_eq ?_
    refine aw_then ?_
    refine aw_code f3bcacaacaaacaaccaaca_eq ?_
    refine aw_reg ?_
    refine aops_go 3 60 (by kernel_rfl) ?_
    refine aops_call_to 19 9 #[.agg #[.int .i64 op, .int .u32 1]] H2_ (by kernel_rfl) (by kernel_rfl) (fun v => (by kernel_rfl)) (by kernel_rfl) (by kernel_rfl) (same_any op 1 (by first | rfl | assumption) H2_) ?_
    rintro _ H3_ ⟨rfl, uH3_⟩
    have nH3_ := uH3_.n
    refine aops_go 1 60 (by kernel_rfl) ?_
    refine aops_end (by kernel_rfl) (then_normal ?_)
    refine aw_code f3bcacaacaaacaaccaacc_eq ?_
    refine aw_cond (t := false) (by kernel_rfl) ?_
    refine aw_skip (blk_normal (then_normal ?_))
    refine aw_code f3bcacaacaaacaaccc_eq ?_
    refine aw_reg ?_
    refine aops_go 2 60 (by kernel_rfl) ?_
    refine aops_end (by kernel_rfl) (then_normal (hK2_ _ ?_))
    refine aw_loop_k fun K3_ hK3_ => ?_
    refine aw_code f3bcacaacaaacaa_eq ?_
    refine aw_then ?_
    refine aw_code f3bcacaacaaacaaa_eq ?_
    refine aw_reg ?_
    refine aops_go 1 60 (by kernel_rfl) ?_
    refine aops_end (by kernel_rfl) (then_normal ?_)
    refine aw_code f3bcacaacaaacaac_eq ?_
    refine aw_then ?_
    refine aw_code f3bcacaacaaacaaca_eq ?_
    refine aw_cond (t := true) (by kernel_rfl) ?_
    refine aw_skip (then_normal ?_)
    refine aw_code f3bcacaacaaacaacc_eq ?_
    refine aw_then ?_
    refine aw_code f3bcacaacaaacaacca_eq ?_
    refine aw_block ?_
    refine aw_code f3bcacaacaaacaaccaa_eq ?_
    refine aw_then ?_
    refine aw_code f3bcacaacaaacaaccaaa_eq ?_
    refine aw_reg ?_
    refine aops_go 1 60 (by kernel_rfl) ?_
    have gH3_H1_n : H3_.get (H1.n) = some ⟨[Value.int .u32 0, .int .u32 1, .int .u32 255, .int .u32 256, .int .u32 4294967295], 22, false⟩ := by rw [uH3_.get _ (by omega)]; exact gH2_H1_n
    refine aops_val 15 (.int .u32 255) H3_ (by kernel_rfl) (by kernel_rfl) (by kernel_rfl) ((by kernel_rfl : _ = val (aload T20 22 (.pointer (some ⟨H1.n, 2, none⟩)) H3_) H3_).trans (val_of ((aload_at gH3_H1_n).trans (by kernel_rfl)))) ?_
    refine aops_go 1 60 (by kernel_rfl) ?_
    refine aops_end (by kernel_rfl) (then_normal ?_)
    refine aw_code f3bcacaacaaacaaccaac_eq ?_
    refine aw_then ?_
    refine aw_code f3bcacaacaaacaaccaaca_eq ?_
    refine aw_reg ?_
    refine aops_go 3 60 (by kernel_rfl) ?_
    refine aops_call_to 19 9 #[.agg #[.int .i64 op, .int .u32 255]] H3_ (by kernel_rfl) (by kernel_rfl) (fun v => (by kernel_rfl)) (by kernel_rfl) (by kernel_rfl) (same_any op 255 (by first | rfl | assumption) H3_) ?_
    rintro _ H4_ ⟨rfl, uH4_⟩
    have nH4_ := uH4_.n
    refine aops_go 1 60 (by kernel_rfl) ?_
    refine aops_end (by kernel_rfl) (then_normal ?_)
    refine aw_code f3bcacaacaaacaaccaacc_eq ?_
    refine aw_cond (t := false) (by kernel_rfl) ?_
    refine aw_skip (blk_normal (then_normal ?_))
    refine aw_code f3bcacaacaaacaaccc_eq ?_
    refine aw_reg ?_
    refine aops_go 2 60 (by kernel_rfl) ?_
    refine aops_end (by kernel_rfl) (then_normal (hK3_ _ ?_))
    refine aw_loop_k fun K4_ hK4_ => ?_
    refine aw_code f3bcacaacaaacaa_eq ?_
    refine aw_then ?_
    refine aw_code f3bcacaacaaacaaa_eq ?_
    refine aw_reg ?_
    refine aops_go 1 60 (by kernel_rfl) ?_
    refine aops_end (by kernel_rfl) (then_normal ?_)
    refine aw_code f3bcacaacaaacaac_eq ?_
    refine aw_then ?_
    refine aw_code f3bcacaacaaacaaca_eq ?_
    refine aw_cond (t := true) (by kernel_rfl) ?_
    refine aw_skip (then_normal ?_)
    refine aw_code f3bcacaacaaacaacc_eq ?_
    refine aw_then ?_
    refine aw_code f3bcacaacaaacaacca_eq ?_
    refine aw_block ?_
    refine aw_code f3bcacaacaaacaaccaa_eq ?_
    refine aw_then ?_
    refine aw_code f3bcacaacaaacaaccaaa_eq ?_
    refine aw_reg ?_
    refine aops_go 1 60 (by kernel_rfl) ?_
    have gH4_H1_n : H4_.get (H1.n) = some ⟨[Value.int .u32 0, .int .u32 1, .int .u32 255, .int .u32 256, .int .u32 4294967295], 22, false⟩ := by rw [uH4_.get _ (by omega)]; exact gH3_H1_n
    refine aops_val 15 (.int .u32 256) H4_ (by kernel_rfl) (by kernel_rfl) (by kernel_rfl) ((by kernel_rfl : _ = val (aload T20 22 (.pointer (some ⟨H1.n, 3, none⟩)) H4_) H4_).trans (val_of ((aload_at gH4_H1_n).trans (by kernel_rfl)))) ?_
    refine aops_go 1 60 (by kernel_rfl) ?_
    refine aops_end (by kernel_rfl) (then_normal ?_)
    refine aw_code f3bcacaacaaacaaccaac_eq ?_
    refine aw_then ?_
    refine aw_code f3bcacaacaaacaaccaaca_eq ?_
    refine aw_reg ?_
    refine aops_go 3 60 (by kernel_rfl) ?_
    refine aops_call_to 19 9 #[.agg #[.int .i64 op, .int .u32 256]] H4_ (by kernel_rfl) (by kernel_rfl) (fun v => (by kernel_rfl)) (by kernel_rfl) (by kernel_rfl) (same_any op 256 (by first | rfl | assumption) H4_) ?_
    rintro _ H5_ ⟨rfl, uH5_⟩
    have nH5_ := uH5_.n
    refine aops_go 1 60 (by kernel_rfl) ?_
    refine aops_end (by kernel_rfl) (then_normal ?_)
    refine aw_code f3bcacaacaaacaaccaacc_eq ?_
    refine aw_cond (t := false) (by kernel_rfl) ?_
    refine aw_skip (blk_normal (then_normal ?_))
    refine aw_code f3bcacaacaaacaaccc_eq ?_
    refine aw_reg ?_
    refine aops_go 2 60 (by kernel_rfl) ?_
    refine aops_end (by kernel_rfl) (then_normal (hK4_ _ ?_))
    refine aw_loop_k fun K5_ hK5_ => ?_
    refine aw_code f3bcacaacaaacaa_eq ?_
    refine aw_then ?_
    refine aw_code f3bcacaacaaacaaa_eq ?_
    refine aw_reg ?_
    refine aops_go 1 60 (by kernel_rfl) ?_
    refine aops_end (by kernel_rfl) (then_normal ?_)
    refine aw_code f3bcacaacaaacaac_eq ?_
    refine aw_then ?_
    refine aw_code f3bcacaacaaacaaca_eq ?_
    refine aw_cond (t := true) (by kernel_rfl) ?_
    refine aw_skip (then_normal ?_)
    refine aw_code f3bcacaacaaacaacc_eq ?_
    refine aw_then ?_
    refine aw_code f3bcacaacaaacaacca_eq ?_
    refine aw_block ?_
    refine aw_code f3bcacaacaaacaaccaa_eq ?_
    refine aw_then ?_
    refine aw_code f3bcacaacaaacaaccaaa_eq ?_
    refine aw_reg ?_
    refine aops_go 1 60 (by kernel_rfl) ?_
    have gH5_H1_n : H5_.get (H1.n) = some ⟨[Value.int .u32 0, .int .u32 1, .int .u32 255, .int .u32 256, .int .u32 4294967295], 22, false⟩ := by rw [uH5_.get _ (by omega)]; exact gH4_H1_n
    refine aops_val 15 (.int .u32 4294967295) H5_ (by kernel_rfl) (by kernel_rfl) (by kernel_rfl) ((by kernel_rfl : _ = val (aload T20 22 (.pointer (some ⟨H1.n, 4, none⟩)) H5_) H5_).trans (val_of ((aload_at gH5_H1_n).trans (by kernel_rfl)))) ?_
    refine aops_go 1 60 (by kernel_rfl) ?_
    refine aops_end (by kernel_rfl) (then_normal ?_)
    refine aw_code f3bcacaacaaacaaccaac_eq ?_
    refine aw_then ?_
    refine aw_code f3bcacaacaaacaaccaaca_eq ?_
    refine aw_reg ?_
    refine aops_go 3 60 (by kernel_rfl) ?_
    refine aops_call_to 19 9 #[.agg #[.int .i64 op, .int .u32 4294967295]] H5_ (by kernel_rfl) (by kernel_rfl) (fun v => (by kernel_rfl)) (by kernel_rfl) (by kernel_rfl) (same_any op 4294967295 (by first | rfl | assumption) H5_) ?_
    rintro _ H6_ ⟨rfl, uH6_⟩
    have nH6_ := uH6_.n
    refine aops_go 1 60 (by kernel_rfl) ?_
    refine aops_end (by kernel_rfl) (then_normal ?_)
    refine aw_code f3bcacaacaaacaaccaacc_eq ?_
    refine aw_cond (t := false) (by kernel_rfl) ?_
    refine aw_skip (blk_normal (then_normal ?_))
    refine aw_code f3bcacaacaaacaaccc_eq ?_
    refine aw_reg ?_
    refine aops_go 2 60 (by kernel_rfl) ?_
    refine aops_end (by kernel_rfl) (then_normal (hK5_ _ ?_))
    refine aw_loop_k fun K6_ hK6_ => ?_
    refine aw_code f3bcacaacaaacaa_eq ?_
    refine aw_then ?_
    refine aw_code f3bcacaacaaacaaa_eq ?_
    refine aw_reg ?_
    refine aops_go 1 60 (by kernel_rfl) ?_
    refine aops_end (by kernel_rfl) (then_normal ?_)
    refine aw_code f3bcacaacaaacaac_eq ?_
    refine aw_then ?_
    refine aw_code f3bcacaacaaacaaca_eq ?_
    refine aw_cond (t := false) (by kernel_rfl) ?_
    refine aw_exit (then_exit (then_exit (blk_hit (then_normal ?_))))
    refine aw_code f3bcacaacaac_eq ?_
    refine aw_then ?_
    refine aw_code f3bcacaacaaca_eq ?_
    refine aw_reg ?_
    refine aops_go 2 60 (by kernel_rfl) ?_
    obtain ⟨H7_, hH7_⟩ : ∃ x : Heap, x = H6_.push ⟨[Value.int .u8 (IntKind.u8.wrap op), .int .u8 1, .int .u8 2, .int .u8 3, .int .u8 4, .int .u8 5], 5, false⟩ := ⟨_, rfl⟩
    have nH7_ : H7_.n = H6_.n + 1 := by rw [hH7_]; rfl
    refine aops_val 24 (.slice (some ⟨H6_.n, 0, none⟩) 6 6) H7_ (by kernel_rfl) (by kernel_rfl) (by kernel_rfl) ((by kernel_rfl : _ = some (Res.val (.slice (some ⟨H6_.n, 0, none⟩) 6 6), H6_.push ⟨[Value.int .u8 (IntKind.u8.wrap op), .int .u8 1, .int .u8 2, .int .u8 3, .int .u8 4, .int .u8 5], 5, false⟩)).trans (by rw [← hH7_])) ?_
    refine aops_go 1 60 (by kernel_rfl) ?_
    refine aops_end (by kernel_rfl) (then_normal ?_)
    refine aw_code f3bcacaacaacc_eq ?_
    refine aw_then ?_
    refine aw_code f3bcacaacaacca_eq ?_
    refine aw_reg ?_
    refine aops_go 1 60 (by kernel_rfl) ?_
    refine aops_end (by kernel_rfl) (then_normal ?_)
    refine aw_code f3bcacaacaaccc_eq ?_
    refine aw_block ?_
    refine aw_code f3bcacaacaaccca_eq ?_
    refine aw_loop_k fun K7_ hK7_ => ?_
    refine aw_code f3bcacaacaacccaa_eq ?_
    refine aw_then ?_
    refine aw_code f3bcacaacaacccaaa_eq ?_
    refine aw_then ?_
    refine aw_code f3bcacaacaacccaaaa_eq ?_
    refine aw_reg ?_
    refine aops_go 4 60 (by kernel_rfl) ?_
    refine aops_end (by kernel_rfl) (then_normal ?_)
    refine aw_code f3bcacaacaacccaaac_eq ?_
    refine aw_cond (t := true) (by kernel_rfl) ?_
    refine aw_skip (then_normal ?_)
    refine aw_code f3bcacaacaacccaac_eq ?_
    refine aw_then ?_
    refine aw_code f3bcacaacaacccaaca_eq ?_
    refine aw_block ?_
    refine aw_code f3bcacaacaacccaacaa_eq ?_
    refine aw_then ?_
    refine aw_code f3bcacaacaacccaacaaa_eq ?_
    refine aw_reg ?_
    refine aops_go 3 60 (by kernel_rfl) ?_
    have gH7_H6__n : H7_.get (H6_.n) = some ⟨[Value.int .u8 (IntKind.u8.wrap op), .int .u8 1, .int .u8 2, .int .u8 3, .int .u8 4, .int .u8 5], 5, false⟩ := by rw [hH7_]; exact (Heap.get_push _ _ _).trans (if_pos rfl)
    refine aops_call_to 34 10 #[.slice (some ⟨H6_.n, 0, none⟩) 0 6] H7_ (by kernel_rfl) (by kernel_rfl) (fun v => (by kernel_rfl)) (by kernel_rfl) (by kernel_rfl) (reads_any (byts_six 0 gH7_H6__n (by omega) (by omega))) ?_
    rintro _ H8_ ⟨rfl, uH8_⟩
    have nH8_ := uH8_.n
    refine aops_go 1 60 (by kernel_rfl) ?_
    refine aops_end (by kernel_rfl) (then_normal ?_)
    refine aw_code f3bcacaacaacccaacaac_eq ?_
    refine aw_cond (t := false) (by kernel_rfl) ?_
    refine aw_skip (blk_normal (then_normal ?_))
    refine aw_code f3bcacaacaacccaacc_eq ?_
    refine aw_reg ?_
    refine aops_go 3 60 (by kernel_rfl) ?_
    refine aops_end (by kernel_rfl) (then_normal (hK7_ _ ?_))
    refine aw_loop_k fun K8_ hK8_ => ?_
    refine aw_code f3bcacaacaacccaa_eq ?_
    refine aw_then ?_
    refine aw_code f3bcacaacaacccaaa_eq ?_
    refine aw_then ?_
    refine aw_code f3bcacaacaacccaaaa_eq ?_
    refine aw_reg ?_
    refine aops_go 4 60 (by kernel_rfl) ?_
    refine aops_end (by kernel_rfl) (then_normal ?_)
    refine aw_code f3bcacaacaacccaaac_eq ?_
    refine aw_cond (t := true) (by kernel_rfl) ?_
    refine aw_skip (then_normal ?_)
    refine aw_code f3bcacaacaacccaac_eq ?_
    refine aw_then ?_
    refine aw_code f3bcacaacaacccaaca_eq ?_
    refine aw_block ?_
    refine aw_code f3bcacaacaacccaacaa_eq ?_
    refine aw_then ?_
    refine aw_code f3bcacaacaacccaacaaa_eq ?_
    refine aw_reg ?_
    refine aops_go 3 60 (by kernel_rfl) ?_
    have gH8_H6__n : H8_.get (H6_.n) = some ⟨[Value.int .u8 (IntKind.u8.wrap op), .int .u8 1, .int .u8 2, .int .u8 3, .int .u8 4, .int .u8 5], 5, false⟩ := by rw [uH8_.get _ (by omega)]; exact gH7_H6__n
    refine aops_call_to 34 10 #[.slice (some ⟨H6_.n, 0, none⟩) 1 6] H8_ (by kernel_rfl) (by kernel_rfl) (fun v => (by kernel_rfl)) (by kernel_rfl) (by kernel_rfl) (reads_any (byts_six 1 gH8_H6__n (by omega) (by omega))) ?_
    rintro _ H9_ ⟨rfl, uH9_⟩
    have nH9_ := uH9_.n
    refine aops_go 1 60 (by kernel_rfl) ?_
    refine aops_end (by kernel_rfl) (then_normal ?_)
    refine aw_code f3bcacaacaacccaacaac_eq ?_
    refine aw_cond (t := false) (by kernel_rfl) ?_
    refine aw_skip (blk_normal (then_normal ?_))
    refine aw_code f3bcacaacaacccaacc_eq ?_
    refine aw_reg ?_
    refine aops_go 3 60 (by kernel_rfl) ?_
    refine aops_end (by kernel_rfl) (then_normal (hK8_ _ ?_))
    refine aw_loop_k fun K9_ hK9_ => ?_
    refine aw_code f3bcacaacaacccaa_eq ?_
    refine aw_then ?_
    refine aw_code f3bcacaacaacccaaa_eq ?_
    refine aw_then ?_
    refine aw_code f3bcacaacaacccaaaa_eq ?_
    refine aw_reg ?_
    refine aops_go 4 60 (by kernel_rfl) ?_
    refine aops_end (by kernel_rfl) (then_normal ?_)
    refine aw_code f3bcacaacaacccaaac_eq ?_
    refine aw_cond (t := true) (by kernel_rfl) ?_
    refine aw_skip (then_normal ?_)
    refine aw_code f3bcacaacaacccaac_eq ?_
    refine aw_then ?_
    refine aw_code f3bcacaacaacccaaca_eq ?_
    refine aw_block ?_
    refine aw_code f3bcacaacaacccaacaa_eq ?_
    refine aw_then ?_
    refine aw_code f3bcacaacaacccaacaaa_eq ?_
    refine aw_reg ?_
    refine aops_go 3 60 (by kernel_rfl) ?_
    have gH9_H6__n : H9_.get (H6_.n) = some ⟨[Value.int .u8 (IntKind.u8.wrap op), .int .u8 1, .int .u8 2, .int .u8 3, .int .u8 4, .int .u8 5], 5, false⟩ := by rw [uH9_.get _ (by omega)]; exact gH8_H6__n
    refine aops_call_to 34 10 #[.slice (some ⟨H6_.n, 0, none⟩) 2 6] H9_ (by kernel_rfl) (by kernel_rfl) (fun v => (by kernel_rfl)) (by kernel_rfl) (by kernel_rfl) (reads_any (byts_six 2 gH9_H6__n (by omega) (by omega))) ?_
    rintro _ H10_ ⟨rfl, uH10_⟩
    have nH10_ := uH10_.n
    refine aops_go 1 60 (by kernel_rfl) ?_
    refine aops_end (by kernel_rfl) (then_normal ?_)
    refine aw_code f3bcacaacaacccaacaac_eq ?_
    refine aw_cond (t := false) (by kernel_rfl) ?_
    refine aw_skip (blk_normal (then_normal ?_))
    refine aw_code f3bcacaacaacccaacc_eq ?_
    refine aw_reg ?_
    refine aops_go 3 60 (by kernel_rfl) ?_
    refine aops_end (by kernel_rfl) (then_normal (hK9_ _ ?_))
    refine aw_loop_k fun K10_ hK10_ => ?_
    refine aw_code f3bcacaacaacccaa_eq ?_
    refine aw_then ?_
    refine aw_code f3bcacaacaacccaaa_eq ?_
    refine aw_then ?_
    refine aw_code f3bcacaacaacccaaaa_eq ?_
    refine aw_reg ?_
    refine aops_go 4 60 (by kernel_rfl) ?_
    refine aops_end (by kernel_rfl) (then_normal ?_)
    refine aw_code f3bcacaacaacccaaac_eq ?_
    refine aw_cond (t := true) (by kernel_rfl) ?_
    refine aw_skip (then_normal ?_)
    refine aw_code f3bcacaacaacccaac_eq ?_
    refine aw_then ?_
    refine aw_code f3bcacaacaacccaaca_eq ?_
    refine aw_block ?_
    refine aw_code f3bcacaacaacccaacaa_eq ?_
    refine aw_then ?_
    refine aw_code f3bcacaacaacccaacaaa_eq ?_
    refine aw_reg ?_
    refine aops_go 3 60 (by kernel_rfl) ?_
    have gH10_H6__n : H10_.get (H6_.n) = some ⟨[Value.int .u8 (IntKind.u8.wrap op), .int .u8 1, .int .u8 2, .int .u8 3, .int .u8 4, .int .u8 5], 5, false⟩ := by rw [uH10_.get _ (by omega)]; exact gH9_H6__n
    refine aops_call_to 34 10 #[.slice (some ⟨H6_.n, 0, none⟩) 3 6] H10_ (by kernel_rfl) (by kernel_rfl) (fun v => (by kernel_rfl)) (by kernel_rfl) (by kernel_rfl) (reads_any (byts_six 3 gH10_H6__n (by omega) (by omega))) ?_
    rintro _ H11_ ⟨rfl, uH11_⟩
    have nH11_ := uH11_.n
    refine aops_go 1 60 (by kernel_rfl) ?_
    refine aops_end (by kernel_rfl) (then_normal ?_)
    refine aw_code f3bcacaacaacccaacaac_eq ?_
    refine aw_cond (t := false) (by kernel_rfl) ?_
    refine aw_skip (blk_normal (then_normal ?_))
    refine aw_code f3bcacaacaacccaacc_eq ?_
    refine aw_reg ?_
    refine aops_go 3 60 (by kernel_rfl) ?_
    refine aops_end (by kernel_rfl) (then_normal (hK10_ _ ?_))
    refine aw_loop_k fun K11_ hK11_ => ?_
    refine aw_code f3bcacaacaacccaa_eq ?_
    refine aw_then ?_
    refine aw_code f3bcacaacaacccaaa_eq ?_
    refine aw_then ?_
    refine aw_code f3bcacaacaacccaaaa_eq ?_
    refine aw_reg ?_
    refine aops_go 4 60 (by kernel_rfl) ?_
    refine aops_end (by kernel_rfl) (then_normal ?_)
    refine aw_code f3bcacaacaacccaaac_eq ?_
    refine aw_cond (t := true) (by kernel_rfl) ?_
    refine aw_skip (then_normal ?_)
    refine aw_code f3bcacaacaacccaac_eq ?_
    refine aw_then ?_
    refine aw_code f3bcacaacaacccaaca_eq ?_
    refine aw_block ?_
    refine aw_code f3bcacaacaacccaacaa_eq ?_
    refine aw_then ?_
    refine aw_code f3bcacaacaacccaacaaa_eq ?_
    refine aw_reg ?_
    refine aops_go 3 60 (by kernel_rfl) ?_
    have gH11_H6__n : H11_.get (H6_.n) = some ⟨[Value.int .u8 (IntKind.u8.wrap op), .int .u8 1, .int .u8 2, .int .u8 3, .int .u8 4, .int .u8 5], 5, false⟩ := by rw [uH11_.get _ (by omega)]; exact gH10_H6__n
    refine aops_call_to 34 10 #[.slice (some ⟨H6_.n, 0, none⟩) 4 6] H11_ (by kernel_rfl) (by kernel_rfl) (fun v => (by kernel_rfl)) (by kernel_rfl) (by kernel_rfl) (reads_any (byts_six 4 gH11_H6__n (by omega) (by omega))) ?_
    rintro _ H12_ ⟨rfl, uH12_⟩
    have nH12_ := uH12_.n
    refine aops_go 1 60 (by kernel_rfl) ?_
    refine aops_end (by kernel_rfl) (then_normal ?_)
    refine aw_code f3bcacaacaacccaacaac_eq ?_
    refine aw_cond (t := false) (by kernel_rfl) ?_
    refine aw_skip (blk_normal (then_normal ?_))
    refine aw_code f3bcacaacaacccaacc_eq ?_
    refine aw_reg ?_
    refine aops_go 3 60 (by kernel_rfl) ?_
    refine aops_end (by kernel_rfl) (then_normal (hK11_ _ ?_))
    refine aw_loop_k fun K12_ hK12_ => ?_
    refine aw_code f3bcacaacaacccaa_eq ?_
    refine aw_then ?_
    refine aw_code f3bcacaacaacccaaa_eq ?_
    refine aw_then ?_
    refine aw_code f3bcacaacaacccaaaa_eq ?_
    refine aw_reg ?_
    refine aops_go 4 60 (by kernel_rfl) ?_
    refine aops_end (by kernel_rfl) (then_normal ?_)
    refine aw_code f3bcacaacaacccaaac_eq ?_
    refine aw_cond (t := true) (by kernel_rfl) ?_
    refine aw_skip (then_normal ?_)
    refine aw_code f3bcacaacaacccaac_eq ?_
    refine aw_then ?_
    refine aw_code f3bcacaacaacccaaca_eq ?_
    refine aw_block ?_
    refine aw_code f3bcacaacaacccaacaa_eq ?_
    refine aw_then ?_
    refine aw_code f3bcacaacaacccaacaaa_eq ?_
    refine aw_reg ?_
    refine aops_go 3 60 (by kernel_rfl) ?_
    have gH12_H6__n : H12_.get (H6_.n) = some ⟨[Value.int .u8 (IntKind.u8.wrap op), .int .u8 1, .int .u8 2, .int .u8 3, .int .u8 4, .int .u8 5], 5, false⟩ := by rw [uH12_.get _ (by omega)]; exact gH11_H6__n
    refine aops_call_to 34 10 #[.slice (some ⟨H6_.n, 0, none⟩) 5 6] H12_ (by kernel_rfl) (by kernel_rfl) (fun v => (by kernel_rfl)) (by kernel_rfl) (by kernel_rfl) (reads_any (byts_six 5 gH12_H6__n (by omega) (by omega))) ?_
    rintro _ H13_ ⟨rfl, uH13_⟩
    have nH13_ := uH13_.n
    refine aops_go 1 60 (by kernel_rfl) ?_
    refine aops_end (by kernel_rfl) (then_normal ?_)
    refine aw_code f3bcacaacaacccaacaac_eq ?_
    refine aw_cond (t := false) (by kernel_rfl) ?_
    refine aw_skip (blk_normal (then_normal ?_))
    refine aw_code f3bcacaacaacccaacc_eq ?_
    refine aw_reg ?_
    refine aops_go 3 60 (by kernel_rfl) ?_
    refine aops_end (by kernel_rfl) (then_normal (hK12_ _ ?_))
    refine aw_loop_k fun K13_ hK13_ => ?_
    refine aw_code f3bcacaacaacccaa_eq ?_
    refine aw_then ?_
    refine aw_code f3bcacaacaacccaaa_eq ?_
    refine aw_then ?_
    refine aw_code f3bcacaacaacccaaaa_eq ?_
    refine aw_reg ?_
    refine aops_go 4 60 (by kernel_rfl) ?_
    refine aops_end (by kernel_rfl) (then_normal ?_)
    refine aw_code f3bcacaacaacccaaac_eq ?_
    refine aw_cond (t := true) (by kernel_rfl) ?_
    refine aw_skip (then_normal ?_)
    refine aw_code f3bcacaacaacccaac_eq ?_
    refine aw_then ?_
    refine aw_code f3bcacaacaacccaaca_eq ?_
    refine aw_block ?_
    refine aw_code f3bcacaacaacccaacaa_eq ?_
    refine aw_then ?_
    refine aw_code f3bcacaacaacccaacaaa_eq ?_
    refine aw_reg ?_
    refine aops_go 3 60 (by kernel_rfl) ?_
    have gH13_H6__n : H13_.get (H6_.n) = some ⟨[Value.int .u8 (IntKind.u8.wrap op), .int .u8 1, .int .u8 2, .int .u8 3, .int .u8 4, .int .u8 5], 5, false⟩ := by rw [uH13_.get _ (by omega)]; exact gH12_H6__n
    refine aops_call_to 34 10 #[.slice (some ⟨H6_.n, 0, none⟩) 6 6] H13_ (by kernel_rfl) (by kernel_rfl) (fun v => (by kernel_rfl)) (by kernel_rfl) (by kernel_rfl) (reads_any (byts_six 6 gH13_H6__n (by omega) (by omega))) ?_
    rintro _ H14_ ⟨rfl, uH14_⟩
    have nH14_ := uH14_.n
    refine aops_go 1 60 (by kernel_rfl) ?_
    refine aops_end (by kernel_rfl) (then_normal ?_)
    refine aw_code f3bcacaacaacccaacaac_eq ?_
    refine aw_cond (t := false) (by kernel_rfl) ?_
    refine aw_skip (blk_normal (then_normal ?_))
    refine aw_code f3bcacaacaacccaacc_eq ?_
    refine aw_reg ?_
    refine aops_go 3 60 (by kernel_rfl) ?_
    refine aops_end (by kernel_rfl) (then_normal (hK13_ _ ?_))
    refine aw_loop_k fun K14_ hK14_ => ?_
    refine aw_code f3bcacaacaacccaa_eq ?_
    refine aw_then ?_
    refine aw_code f3bcacaacaacccaaa_eq ?_
    refine aw_then ?_
    refine aw_code f3bcacaacaacccaaaa_eq ?_
    refine aw_reg ?_
    refine aops_go 4 60 (by kernel_rfl) ?_
    refine aops_end (by kernel_rfl) (then_normal ?_)
    refine aw_code f3bcacaacaacccaaac_eq ?_
    refine aw_cond (t := false) (by kernel_rfl) ?_
    refine aw_exit (then_exit (then_exit (blk_hit (blk_normal (then_normal ?_)))))
    refine aw_code f3bcacaacc_eq ?_
    refine aw_reg ?_
    refine aops_go 2 60 (by kernel_rfl) ?_
    refine aops_see 9 (.int .i64 (op + 1)) (see_int (x := (IntKind.i64.wrap (op + 1))) (by kernel_rfl) (w64 (by omega) (by omega) (by omega))) ?_
    refine aops_go 1 60 (by kernel_rfl) ?_
    refine aops_end (by kernel_rfl) (then_normal ⟨(260 - (op + 1)).toNat, by omega, op + 1, H14_, rfl, by omega, by omega, ⟨by kernel_rfl, by kernel_rfl, True.intro⟩, by kernel_rfl, ((hup.trans (show Up H.n H1 H14_ from ⟨by omega, fun b hb => by rw [uH14_.get _ (by omega), uH13_.get _ (by omega), uH12_.get _ (by omega), uH11_.get _ (by omega), uH10_.get _ (by omega), uH9_.get _ (by omega), uH8_.get _ (by omega), hH7_, Heap.get_push, if_neg (by omega), uH6_.get _ (by omega), uH5_.get _ (by omega), uH4_.get _ (by omega), uH3_.get _ (by omega), uH2_.get _ (by omega), hH1_, Heap.get_push, if_neg (by omega)]⟩)))⟩)
  · skip
    refine aw_code f3bcacaa_eq ?_
    refine aw_then ?_
    refine aw_code f3bcacaaa_eq ?_
    refine aw_then ?_
    refine aw_code f3bcacaaaa_eq ?_
    refine aw_reg ?_
    refine aops_go 2 60 (by kernel_rfl) ?_
    refine aops_end (by kernel_rfl) (then_normal ?_)
    refine aw_code f3bcacaaac_eq ?_
    refine aw_cond (t := false) (see_bool (by kernel_rfl) ((by simp; omega) : ((decide ((op : Int) < 260))) = false)) ?_
    refine aw_exit (then_exit (then_exit (blk_hit (then_normal ?_))))
    refine aw_code f3bcc_eq ?_
    refine aw_then ?_
    refine aw_code f3bcca_eq ?_
    refine aw_reg ?_
    refine aops_call_to 36 10 #[.slice none 0 0] H1 (by kernel_rfl) (by kernel_rfl) (fun v => (by kernel_rfl)) (by kernel_rfl) (by kernel_rfl) (reads_any (byts_nil H1 0)) ?_
    rintro _ H15_ ⟨rfl, uH15_⟩
    have nH15_ := uH15_.n
    refine aops_go 1 60 (by kernel_rfl) ?_
    refine aops_ask 38 (.bool true) 11 #[] (by kernel_rfl) (by kernel_rfl) (by kernel_rfl) (by kernel_rfl) (by kernel_rfl) ?_
    refine aops_go 2 60 (by kernel_rfl) ?_
    refine aops_end (by kernel_rfl) (then_normal ?_)
    refine aw_ret (bodyQ_ret_to (.bool true) H15_ (by kernel_rfl) (by kernel_rfl) ?_)
    rfl
end Gc
end Go.Proofs.YtpfmmckbfejfnaaDoor
