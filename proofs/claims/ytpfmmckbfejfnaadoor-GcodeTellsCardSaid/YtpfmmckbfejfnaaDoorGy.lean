/- Chapter 2: bytes held against others. -/
import Derived.Test.YtpfmmckbfejfnaaDoorGx
namespace Go.Proofs.YtpfmmckbfejfnaaDoor
open Go Go.Ev Go.RowKit
set_option linter.unusedVariables false
set_option linter.unusedSimpArgs false
set_option maxRecDepth 100000
namespace Gc
noncomputable def f37b : Code := Tryd.f37.body.getD .skip
noncomputable def f37ba : Code := cl f37b
noncomputable def f37bao : Array Oper := opsOf f37ba
noncomputable def f37bc : Code := cr f37b
noncomputable def f37bca : Code := cl f37bc
noncomputable def f37bcaa : Code := cl f37bca
noncomputable def f37bcaao : Array Oper := opsOf f37bcaa
noncomputable def f37bcac : Code := cr f37bca
noncomputable def f37bcaca : Code := cl f37bcac
noncomputable def f37bcacaa : Code := cl f37bcaca
noncomputable def f37bcacaao : Array Oper := opsOf f37bcacaa
noncomputable def f37bcc : Code := cr f37bc
noncomputable def f37bcca : Code := cl f37bcc
noncomputable def f37bccaa : Code := cl f37bcca
noncomputable def f37bccaao : Array Oper := opsOf f37bccaa
noncomputable def f37bccac : Code := cr f37bcca
noncomputable def f37bccaca : Code := cl f37bccac
noncomputable def f37bccacaa : Code := cl f37bccaca
noncomputable def f37bccacaaa : Code := cl f37bccacaa
noncomputable def f37bccacaaaa : Code := cl f37bccacaaa
noncomputable def f37bccacaaaao : Array Oper := opsOf f37bccacaaaa
noncomputable def f37bccacaaac : Code := cr f37bccacaaa
noncomputable def f37bccacaac : Code := cr f37bccacaa
noncomputable def f37bccacaaca : Code := cl f37bccacaac
noncomputable def f37bccacaacaa : Code := cl f37bccacaaca
noncomputable def f37bccacaacaaa : Code := cl f37bccacaacaa
noncomputable def f37bccacaacaaao : Array Oper := opsOf f37bccacaacaaa
noncomputable def f37bccacaacaac : Code := cr f37bccacaacaa
noncomputable def f37bccacaacaaca : Code := cl f37bccacaacaac
noncomputable def f37bccacaacaacaa : Code := cl f37bccacaacaaca
noncomputable def f37bccacaacaacaao : Array Oper := opsOf f37bccacaacaacaa
noncomputable def f37bccacaacc : Code := cr f37bccacaac
noncomputable def f37bccacaacco : Array Oper := opsOf f37bccacaacc
noncomputable def f37bccc : Code := cr f37bcc
noncomputable def f37bccca : Code := cl f37bccc
noncomputable def f37bcccao : Array Oper := opsOf f37bccca
theorem f37ba_eq : f37ba = .region 0 f37bao false := by kernel_rfl
theorem f37bcaa_eq : f37bcaa = .region 1 f37bcaao false := by kernel_rfl
theorem f37bcacaa_eq : f37bcacaa = .region 2 f37bcacaao false := by kernel_rfl
theorem f37bcaca_eq : f37bcaca = .seq f37bcacaa .ret := by kernel_rfl
theorem f37bcac_eq : f37bcac = .cond (cop f37bcac) f37bcaca .skip := by kernel_rfl
theorem f37bca_eq : f37bca = .seq f37bcaa f37bcac := by kernel_rfl
theorem f37bccaa_eq : f37bccaa = .region 3 f37bccaao false := by kernel_rfl
theorem f37bccacaaaa_eq : f37bccacaaaa = .region 4 f37bccacaaaao false := by kernel_rfl
theorem f37bccacaaac_eq : f37bccacaaac = .cond (cop f37bccacaaac) .skip (.exit 0) := by kernel_rfl
theorem f37bccacaaa_eq : f37bccacaaa = .seq f37bccacaaaa f37bccacaaac := by kernel_rfl
theorem f37bccacaacaaa_eq : f37bccacaacaaa = .region 6 f37bccacaacaaao true := by kernel_rfl
theorem f37bccacaacaacaa_eq : f37bccacaacaacaa = .region 7 f37bccacaacaacaao false := by kernel_rfl
theorem f37bccacaacaaca_eq : f37bccacaacaaca = .seq f37bccacaacaacaa .ret := by kernel_rfl
theorem f37bccacaacaac_eq : f37bccacaacaac = .cond (cop f37bccacaacaac) f37bccacaacaaca .skip := by kernel_rfl
theorem f37bccacaacaa_eq : f37bccacaacaa = .seq f37bccacaacaaa f37bccacaacaac := by kernel_rfl
theorem f37bccacaaca_eq : f37bccacaaca = .block 1 f37bccacaacaa := by kernel_rfl
theorem f37bccacaacc_eq : f37bccacaacc = .region 5 f37bccacaacco false := by kernel_rfl
theorem f37bccacaac_eq : f37bccacaac = .seq f37bccacaaca f37bccacaacc := by kernel_rfl
theorem f37bccacaa_eq : f37bccacaa = .seq f37bccacaaa f37bccacaac := by kernel_rfl
theorem f37bccaca_eq : f37bccaca = .loop f37bccacaa := by kernel_rfl
theorem f37bccac_eq : f37bccac = .block 0 f37bccaca := by kernel_rfl
theorem f37bcca_eq : f37bcca = .seq f37bccaa f37bccac := by kernel_rfl
theorem f37bccca_eq : f37bccca = .region 8 f37bcccao false := by kernel_rfl
theorem f37bccc_eq : f37bccc = .seq f37bccca .ret := by kernel_rfl
theorem f37bcc_eq : f37bcc = .seq f37bcca f37bccc := by kernel_rfl
theorem f37bc_eq : f37bc = .seq f37bca f37bcc := by kernel_rfl
theorem f37b_eq : f37b = .seq f37ba f37bc := by kernel_rfl
theorem f37_body : Tryd.f37.body = some f37b := by kernel_rfl
theorem f37_fn : T20.fn 37 = some Tryd.f37 := by kernel_rfl
theorem same_b0 {H : Heap} {pt1 pt2 : Option Addr} {cap1 cap2 : Nat} {l : List Int} (hl : l.length = 0) : ACall Tryd.prog T20 37 #[.slice pt1 l.length cap1, .slice pt2 l.length cap2] H fun r H' => r = .bool true ∧ H = H' := by
  refine acall_of' 26 (initTm 0 #[(.slice pt1 l.length cap1), (.slice pt2 l.length cap2)]) rfl f37_fn f37_body rfl rfl ?_
  refine aw_code f37b_eq ?_
  refine aw_then ?_
  refine aw_code f37ba_eq ?_
  refine aw_reg ?_
  refine aops_go 1 60 (by kernel_rfl) ?_
  refine aops_end (by kernel_rfl) (then_normal ?_)
  refine aw_code f37bc_eq ?_
  refine aw_then ?_
  refine aw_code f37bca_eq ?_
  refine aw_then ?_
  refine aw_code f37bcaa_eq ?_
  refine aw_reg ?_
  refine aops_go 5 60 (by kernel_rfl) ?_
  refine aops_end (by kernel_rfl) (then_normal ?_)
  refine aw_code f37bcac_eq ?_
  refine aw_cond (t := false) (see_bool (by kernel_rfl) ((by simp) : ((((l.length : Nat) : Int) != ((l.length : Nat) : Int))) = false)) ?_
  refine aw_skip (then_normal ?_)
  refine aw_code f37bcc_eq ?_
  refine aw_then ?_
  refine aw_code f37bcca_eq ?_
  refine aw_then ?_
  refine aw_code f37bccaa_eq ?_
  refine aw_reg ?_
  refine aops_go 1 60 (by kernel_rfl) ?_
  refine aops_end (by kernel_rfl) (then_normal ?_)
  refine aw_code f37bccac_eq ?_
  refine aw_block ?_
  refine aw_code f37bccaca_eq ?_
  refine aw_loop_k fun K1_ hK1_ => ?_
  refine aw_code f37bccacaa_eq ?_
  refine aw_then ?_
  refine aw_code f37bccacaaa_eq ?_
  refine aw_then ?_
  refine aw_code f37bccacaaaa_eq ?_
  refine aw_reg ?_
  refine aops_go 4 60 (by kernel_rfl) ?_
  refine aops_end (by kernel_rfl) (then_normal ?_)
  refine aw_code f37bccacaaac_eq ?_
  refine aw_cond (t := false) (see_bool (by kernel_rfl) ((by rw [hl]; rfl) : ((decide ((0 : Int) < ((l.length : Nat) : Int)))) = false)) ?_
  refine aw_exit (then_exit (then_exit (blk_hit (then_normal ?_))))
  refine aw_code f37bccc_eq ?_
  refine aw_then ?_
  refine aw_code f37bccca_eq ?_
  refine aw_reg ?_
  refine aops_go 1 60 (by kernel_rfl) ?_
  refine aops_end (by kernel_rfl) (then_normal ?_)
  refine aw_ret (bodyQ_ret_to (.bool true) H (by kernel_rfl) (by kernel_rfl) ?_)
  exact ⟨rfl, rfl⟩
theorem same_b1 {H : Heap} {A1 off1 cap1 A2 off2 cap2 : Nat} {cells1 cells2 : List Value} {e1 e2 : TypeId} {ro1 ro2 : Bool} {l : List Int} (hll : l.length ≤ 140737488351232) (g1 : H.get A1 = some ⟨cells1, e1, ro1⟩) (g2 : H.get A2 = some ⟨cells2, e2, ro2⟩) (hb1 : ∀ k (h : k < l.length), cells1[off1 + k * 1]? = some (.int .u8 l[k]) ∧ 0 ≤ l[k] ∧ l[k] < 256) (hb2 : ∀ k (h : k < l.length), cells2[off2 + k * 1]? = some (.int .u8 l[k]) ∧ 0 ≤ l[k] ∧ l[k] < 256) : ACall Tryd.prog T20 37 #[.slice (some ⟨A1, off1, none⟩) l.length cap1, .slice (some ⟨A2, off2, none⟩) l.length cap2] H fun r H' => r = .bool true ∧ H = H' := by
  refine acall_of' 26 (initTm 0 #[.slice (some ⟨A1, off1, none⟩) l.length cap1, .slice (some ⟨A2, off2, none⟩) l.length cap2]) rfl f37_fn f37_body rfl rfl ?_
  refine aw_code f37b_eq ?_
  refine aw_then ?_
  refine aw_code f37ba_eq ?_
  refine aw_reg ?_
  refine aops_go 1 60 (by kernel_rfl) ?_
  refine aops_end (by kernel_rfl) (then_normal ?_)
  refine aw_code f37bc_eq ?_
  refine aw_then ?_
  refine aw_code f37bca_eq ?_
  refine aw_then ?_
  refine aw_code f37bcaa_eq ?_
  refine aw_reg ?_
  refine aops_go 5 60 (by kernel_rfl) ?_
  refine aops_end (by kernel_rfl) (then_normal ?_)
  refine aw_code f37bcac_eq ?_
  refine aw_cond (t := false) (see_bool (by kernel_rfl) ((by simp) : ((((l.length : Nat) : Int) != ((l.length : Nat) : Int))) = false)) ?_
  refine aw_skip (then_normal ?_)
  refine aw_code f37bcc_eq ?_
  refine aw_then ?_
  refine aw_code f37bcca_eq ?_
  refine aw_then ?_
  refine aw_code f37bccaa_eq ?_
  refine aw_reg ?_
  refine aops_go 1 60 (by kernel_rfl) ?_
  refine aops_end (by kernel_rfl) (then_normal ?_)
  refine aw_code f37bccac_eq ?_
  refine aw_block ?_
  refine aw_code f37bccaca_eq ?_
  refine aw_loop (fun m st => ∃ (k : Nat), m = l.length - k ∧ k ≤ l.length ∧ Kn st.tm [(0, .slice (some ⟨A1, off1, none⟩) l.length cap1), (1, .slice (some ⟨A2, off2, none⟩) l.length cap2), (5, .int .i64 ((k : Nat) : Int))] ∧ st.H = H) l.length ⟨0, by omega, by omega, ⟨by kernel_rfl, by kernel_rfl, by kernel_rfl, True.intro⟩, by kernel_rfl⟩ ?_
  rintro m st ⟨k, hm, hl1, hkn, hH⟩
  refine aw_kn' [(0, .slice (some ⟨A1, off1, none⟩) l.length cap1), (1, .slice (some ⟨A2, off2, none⟩) l.length cap2), (5, .int .i64 ((k : Nat) : Int))] hkn hH fun tm => ?_
  by_cases hk : k < l.length
  · skip
    refine aw_code f37bccacaa_eq ?_
    refine aw_then ?_
    refine aw_code f37bccacaaa_eq ?_
    refine aw_then ?_
    refine aw_code f37bccacaaaa_eq ?_
    refine aw_reg ?_
    refine aops_go 4 60 (by kernel_rfl) ?_
    refine aops_end (by kernel_rfl) (then_normal ?_)
    refine aw_code f37bccacaaac_eq ?_
    refine aw_cond (t := true) (see_bool (by kernel_rfl) ((by simp; omega) : ((decide (((k : Nat) : Int) < ((l.length : Nat) : Int)))) = true)) ?_
    refine aw_skip (then_normal ?_)
    refine aw_code f37bccacaac_eq ?_
    refine aw_then ?_
    refine aw_code f37bccacaaca_eq ?_
    refine aw_block ?_
    refine aw_code f37bccacaacaa_eq ?_
    refine aw_then ?_
    refine aw_code f37bccacaacaaa_eq ?_
    refine aw_draw0w (by kernel_rfl) ?_
    refine aops_go 2 60 (by kernel_rfl) ?_
    refine aops_val 19 (.pointer (some ⟨A1, off1 + k * 1, none⟩)) H (by kernel_rfl) (by kernel_rfl) (by kernel_rfl) ((by kernel_rfl : _ = val (bif (k : Nat).blt l.length then some (.pointer (some ⟨A1, off1 + k * 1, none⟩)) else none) H).trans (by rw [show (k : Nat).blt l.length = true from (by rw [blt_dec]; simp only [decide_eq_true_eq]; omega)]; rfl)) ?_
    refine aops_val 20 (.int .u8 l[k]) H (by kernel_rfl) (by kernel_rfl) (by kernel_rfl) ((by kernel_rfl : _ = val (aload T20 5 (.pointer (some ⟨A1, off1 + k * 1, none⟩)) H) H).trans (val_of ((aload_at g1).trans (aloadC_cellB (n := 1) (by kernel_rfl) (by kernel_rfl) (hb1 k hk).1)))) ?_
    refine aops_go 2 60 (by kernel_rfl) ?_
    refine aops_val 23 (.pointer (some ⟨A2, off2 + k * 1, none⟩)) H (by kernel_rfl) (by kernel_rfl) (by kernel_rfl) ((by kernel_rfl : _ = val (bif (k : Nat).blt l.length then some (.pointer (some ⟨A2, off2 + k * 1, none⟩)) else none) H).trans (by rw [show (k : Nat).blt l.length = true from (by rw [blt_dec]; simp only [decide_eq_true_eq]; omega)]; rfl)) ?_
    refine aops_val 24 (.int .u8 l[k]) H (by kernel_rfl) (by kernel_rfl) (by kernel_rfl) ((by kernel_rfl : _ = val (aload T20 5 (.pointer (some ⟨A2, off2 + k * 1, none⟩)) H) H).trans (val_of ((aload_at g2).trans (aloadC_cellB (n := 1) (by kernel_rfl) (by kernel_rfl) (hb2 k hk).1)))) ?_
    refine aops_go 1 60 (by kernel_rfl) ?_
    refine aops_end (by kernel_rfl) (then_normal ?_)
    refine aw_code f37bccacaacaac_eq ?_
    refine aw_cond (t := false) (see_bool (by kernel_rfl) ((by simp) : (((l[k] : Int) != l[k])) = false)) ?_
    refine aw_skip (blk_normal (then_normal ?_))
    refine aw_code f37bccacaacc_eq ?_
    refine aw_reg ?_
    refine aops_go 2 60 (by kernel_rfl) ?_
    refine aops_see 16 (.int .i64 ((k + 1 : Nat) : Int)) (see_int (x := (IntKind.i64.wrap (((k : Nat) : Int) + 1))) (by kernel_rfl) (w64 (by omega) (by omega) (by omega))) ?_
    refine aops_go 1 60 (by kernel_rfl) ?_
    refine aops_end (by kernel_rfl) (then_normal ⟨l.length - (k + 1), by omega, k + 1, rfl, by omega, ⟨by kernel_rfl, by kernel_rfl, by kernel_rfl, True.intro⟩, by kernel_rfl⟩)
  · skip
    refine aw_code f37bccacaa_eq ?_
    refine aw_then ?_
    refine aw_code f37bccacaaa_eq ?_
    refine aw_then ?_
    refine aw_code f37bccacaaaa_eq ?_
    refine aw_reg ?_
    refine aops_go 4 60 (by kernel_rfl) ?_
    refine aops_end (by kernel_rfl) (then_normal ?_)
    refine aw_code f37bccacaaac_eq ?_
    refine aw_cond (t := false) (see_bool (by kernel_rfl) ((by simp; omega) : ((decide (((k : Nat) : Int) < ((l.length : Nat) : Int)))) = false)) ?_
    refine aw_exit (then_exit (then_exit (blk_hit (then_normal ?_))))
    refine aw_code f37bccc_eq ?_
    refine aw_then ?_
    refine aw_code f37bccca_eq ?_
    refine aw_reg ?_
    refine aops_go 1 60 (by kernel_rfl) ?_
    refine aops_end (by kernel_rfl) (then_normal ?_)
    refine aw_ret (bodyQ_ret_to (.bool true) H (by kernel_rfl) (by kernel_rfl) ?_)
    exact ⟨rfl, rfl⟩
theorem same_bytes {H : Heap} {v1 v2 : Value} {l : List Int} (h1 : Byts H v1 l) (h2 : Byts H v2 l) (hll : l.length ≤ 140737488351232) : ACall Tryd.prog T20 37 #[v1, v2] H fun r H' => r = .bool true ∧ H = H' := by
  rcases h1.at_ with ⟨cap1, rfl, rfl⟩ | ⟨A1, off1, cap1, cells1, e1, ro1, rfl, g1, hA1, hb1⟩
  · rcases h2.at_ with ⟨cap2, rfl, _⟩ | ⟨A2, off2, cap2, cells2, e2, ro2, rfl, g2, hA2, hb2⟩
    · exact same_b0 (l := []) rfl
    · exact same_b0 (l := []) rfl
  · rcases h2.at_ with ⟨cap2, rfl, rfl⟩ | ⟨A2, off2, cap2, cells2, e2, ro2, rfl, g2, hA2, hb2⟩
    · exact same_b0 (l := []) rfl
    · exact same_b1 hll g1 g2 hb1 hb2
noncomputable def f14b : Code := Tryd.f14.body.getD .skip
noncomputable def f14ba : Code := cl f14b
noncomputable def f14bao : Array Oper := opsOf f14ba
noncomputable def f14bc : Code := cr f14b
noncomputable def f14bca : Code := cl f14bc
noncomputable def f14bcaa : Code := cl f14bca
noncomputable def f14bcaao : Array Oper := opsOf f14bcaa
noncomputable def f14bcac : Code := cr f14bca
noncomputable def f14bcaca : Code := cl f14bcac
noncomputable def f14bcacaa : Code := cl f14bcaca
noncomputable def f14bcacaao : Array Oper := opsOf f14bcacaa
noncomputable def f14bcc : Code := cr f14bc
noncomputable def f14bcca : Code := cl f14bcc
noncomputable def f14bccaa : Code := cl f14bcca
noncomputable def f14bccaao : Array Oper := opsOf f14bccaa
noncomputable def f14bccac : Code := cr f14bcca
noncomputable def f14bccaca : Code := cl f14bccac
noncomputable def f14bccacaa : Code := cl f14bccaca
noncomputable def f14bccacaaa : Code := cl f14bccacaa
noncomputable def f14bccacaaaa : Code := cl f14bccacaaa
noncomputable def f14bccacaaaao : Array Oper := opsOf f14bccacaaaa
noncomputable def f14bccacaaac : Code := cr f14bccacaaa
noncomputable def f14bccacaac : Code := cr f14bccacaa
noncomputable def f14bccacaaca : Code := cl f14bccacaac
noncomputable def f14bccacaacaa : Code := cl f14bccacaaca
noncomputable def f14bccacaacaaa : Code := cl f14bccacaacaa
noncomputable def f14bccacaacaaao : Array Oper := opsOf f14bccacaacaaa
noncomputable def f14bccacaacaac : Code := cr f14bccacaacaa
noncomputable def f14bccacaacaaca : Code := cl f14bccacaacaac
noncomputable def f14bccacaacaacaa : Code := cl f14bccacaacaaca
noncomputable def f14bccacaacaacaao : Array Oper := opsOf f14bccacaacaacaa
noncomputable def f14bccacaacc : Code := cr f14bccacaac
noncomputable def f14bccacaacco : Array Oper := opsOf f14bccacaacc
noncomputable def f14bccc : Code := cr f14bcc
noncomputable def f14bccca : Code := cl f14bccc
noncomputable def f14bcccao : Array Oper := opsOf f14bccca
theorem f14ba_eq : f14ba = .region 0 f14bao false := by kernel_rfl
theorem f14bcaa_eq : f14bcaa = .region 1 f14bcaao false := by kernel_rfl
theorem f14bcacaa_eq : f14bcacaa = .region 2 f14bcacaao false := by kernel_rfl
theorem f14bcaca_eq : f14bcaca = .seq f14bcacaa .ret := by kernel_rfl
theorem f14bcac_eq : f14bcac = .cond (cop f14bcac) f14bcaca .skip := by kernel_rfl
theorem f14bca_eq : f14bca = .seq f14bcaa f14bcac := by kernel_rfl
theorem f14bccaa_eq : f14bccaa = .region 3 f14bccaao false := by kernel_rfl
theorem f14bccacaaaa_eq : f14bccacaaaa = .region 4 f14bccacaaaao false := by kernel_rfl
theorem f14bccacaaac_eq : f14bccacaaac = .cond (cop f14bccacaaac) .skip (.exit 0) := by kernel_rfl
theorem f14bccacaaa_eq : f14bccacaaa = .seq f14bccacaaaa f14bccacaaac := by kernel_rfl
theorem f14bccacaacaaa_eq : f14bccacaacaaa = .region 6 f14bccacaacaaao false := by kernel_rfl
theorem f14bccacaacaacaa_eq : f14bccacaacaacaa = .region 7 f14bccacaacaacaao false := by kernel_rfl
theorem f14bccacaacaaca_eq : f14bccacaacaaca = .seq f14bccacaacaacaa .ret := by kernel_rfl
theorem f14bccacaacaac_eq : f14bccacaacaac = .cond (cop f14bccacaacaac) f14bccacaacaaca .skip := by kernel_rfl
theorem f14bccacaacaa_eq : f14bccacaacaa = .seq f14bccacaacaaa f14bccacaacaac := by kernel_rfl
theorem f14bccacaaca_eq : f14bccacaaca = .block 1 f14bccacaacaa := by kernel_rfl
theorem f14bccacaacc_eq : f14bccacaacc = .region 5 f14bccacaacco false := by kernel_rfl
theorem f14bccacaac_eq : f14bccacaac = .seq f14bccacaaca f14bccacaacc := by kernel_rfl
theorem f14bccacaa_eq : f14bccacaa = .seq f14bccacaaa f14bccacaac := by kernel_rfl
theorem f14bccaca_eq : f14bccaca = .loop f14bccacaa := by kernel_rfl
theorem f14bccac_eq : f14bccac = .block 0 f14bccaca := by kernel_rfl
theorem f14bcca_eq : f14bcca = .seq f14bccaa f14bccac := by kernel_rfl
theorem f14bccca_eq : f14bccca = .region 8 f14bcccao false := by kernel_rfl
theorem f14bccc_eq : f14bccc = .seq f14bccca .ret := by kernel_rfl
theorem f14bcc_eq : f14bcc = .seq f14bcca f14bccc := by kernel_rfl
theorem f14bc_eq : f14bc = .seq f14bca f14bcc := by kernel_rfl
theorem f14b_eq : f14b = .seq f14ba f14bc := by kernel_rfl
theorem f14_body : Tryd.f14.body = some f14b := by kernel_rfl
theorem f14_fn : T20.fn 14 = some Tryd.f14 := by kernel_rfl
theorem intact_any {H : Heap} {B cap : Nat} {pt : Option Addr} {l : List Int} (hll : l.length ≤ 140737488351232) (gB : H.get B = some ⟨fillC l 80, 5, false⟩) (hB : B < H.n) (hb : ∀ x ∈ l, 0 ≤ x ∧ x < 256) (hW : Byts H (.slice pt l.length cap) l) : ACall Tryd.prog T20 14 #[.slice (some ⟨B, 0, none⟩) (l.length + 80) (l.length + 80), .slice pt l.length cap, .int .u8 165] H fun r H' => r = .bool true ∧ H = H' := by
  refine acall_of' 37 (initTm 0 #[.slice (some ⟨B, 0, none⟩) (l.length + 80) (l.length + 80), (.slice pt l.length cap), .int .u8 165]) rfl f14_fn f14_body rfl rfl ?_
  refine aw_code f14b_eq ?_
  refine aw_then ?_
  refine aw_code f14ba_eq ?_
  refine aw_reg ?_
  refine aops_go 1 60 (by kernel_rfl) ?_
  refine aops_end (by kernel_rfl) (then_normal ?_)
  refine aw_code f14bc_eq ?_
  refine aw_then ?_
  refine aw_code f14bca_eq ?_
  refine aw_then ?_
  refine aw_code f14bcaa_eq ?_
  refine aw_reg ?_
  refine aops_go 5 60 (by kernel_rfl) ?_
  refine aops_see 12 (.int .i64 ((l.length + 80 : Nat) : Int)) (see_int (x := (IntKind.i64.wrap (((l.length : Nat) : Int) + 80))) (by kernel_rfl) (w64 (by omega) (by omega) (by omega))) ?_
  refine aops_go 2 60 (by kernel_rfl) ?_
  refine aops_see 14 (.bool false) (see_bool (by kernel_rfl) ((by simp) : (((((l.length + 80) : Nat) : Int) != ((l.length + 80 : Nat) : Int))) = false)) ?_
  refine aops_go 3 60 (by kernel_rfl) ?_
  refine aops_val 18 (.slice (some ⟨B, 0, none⟩) l.length (l.length + 80)) H (by kernel_rfl) (by kernel_rfl) (by kernel_rfl) (ha_sl (H := H) (t := 27) (x := .tmp 15) (lo := none) (hi := (some (.tmp 17))) (mx := none) (u := .slice (some ⟨B, 0, none⟩) (l.length + 80) (l.length + 80)) (l := none) (h := some (.int .i64 (Int.ofNat l.length))) (m := none) (by kernel_rfl) (by kernel_rfl) (by kernel_rfl) (by kernel_rfl) (by kernel_rfl) (by kernel_rfl) (aslice_hi (e := 5) l.length (by kernel_rfl) (by kernel_rfl) (by unfold unk; omega) (by omega) (by omega)) (by kernel_rfl)) ?_
  refine aops_go 1 60 (by kernel_rfl) ?_
  refine aops_call_to 20 37 #[.slice (some ⟨B, 0, none⟩) l.length (l.length + 80), (.slice pt l.length cap)] H (by kernel_rfl) (by kernel_rfl) (fun v => (by kernel_rfl)) (by kernel_rfl) (by kernel_rfl) (same_bytes (byts_full gB hB hb) hW hll) ?_
  rintro _ _ ⟨rfl, rfl⟩
  refine aops_go 2 60 (by kernel_rfl) ?_
  refine aops_end (by kernel_rfl) (then_normal ?_)
  refine aw_code f14bcac_eq ?_
  refine aw_cond (t := false) (by kernel_rfl) ?_
  refine aw_skip (then_normal ?_)
  refine aw_code f14bcc_eq ?_
  refine aw_then ?_
  refine aw_code f14bcca_eq ?_
  refine aw_then ?_
  refine aw_code f14bccaa_eq ?_
  refine aw_reg ?_
  refine aops_go 3 60 (by kernel_rfl) ?_
  refine aops_end (by kernel_rfl) (then_normal ?_)
  refine aw_code f14bccac_eq ?_
  refine aw_block ?_
  refine aw_code f14bccaca_eq ?_
  refine aw_loop (fun m st => ∃ (k : Nat), m = 80 - k ∧ k ≤ 80 ∧ Kn st.tm [(0, .slice (some ⟨B, 0, none⟩) (l.length + 80) (l.length + 80)), (2, .int .u8 165), (7, .int .i64 ((l.length + k : Nat) : Int))] ∧ st.H = H) 80 ⟨0, by omega, by omega, ⟨by kernel_rfl, by kernel_rfl, by kernel_rfl, True.intro⟩, by kernel_rfl⟩ ?_
  rintro m st ⟨k, hm, hl1, hkn, hH⟩
  refine aw_kn' [(0, .slice (some ⟨B, 0, none⟩) (l.length + 80) (l.length + 80)), (2, .int .u8 165), (7, .int .i64 ((l.length + k : Nat) : Int))] hkn hH fun tm => ?_
  by_cases hk : k < 80
  · skip
    refine aw_code f14bccacaa_eq ?_
    refine aw_then ?_
    refine aw_code f14bccacaaa_eq ?_
    refine aw_then ?_
    refine aw_code f14bccacaaaa_eq ?_
    refine aw_reg ?_
    refine aops_go 4 60 (by kernel_rfl) ?_
    refine aops_end (by kernel_rfl) (then_normal ?_)
    refine aw_code f14bccacaaac_eq ?_
    refine aw_cond (t := true) (see_bool (by kernel_rfl) ((by simp; omega) : ((decide (((l.length + k : Nat) : Int) < (((l.length + 80) : Nat) : Int)))) = true)) ?_
    refine aw_skip (then_normal ?_)
    refine aw_code f14bccacaac_eq ?_
    refine aw_then ?_
    refine aw_code f14bccacaaca_eq ?_
    refine aw_block ?_
    refine aw_code f14bccacaacaa_eq ?_
    refine aw_then ?_
    refine aw_code f14bccacaacaaa_eq ?_
    refine aw_reg ?_
    refine aops_go 2 60 (by kernel_rfl) ?_
    refine aops_val 33 (.pointer (some ⟨B, 0 + (l.length + k) * 1, none⟩)) H (by kernel_rfl) (by kernel_rfl) (by kernel_rfl) ((by kernel_rfl : _ = val (bif (l.length + k : Nat).blt (l.length + 80) then some (.pointer (some ⟨B, 0 + (l.length + k) * 1, none⟩)) else none) H).trans (by rw [show (l.length + k : Nat).blt (l.length + 80) = true from (by rw [blt_dec]; simp only [decide_eq_true_eq]; omega)]; rfl)) ?_
    refine aops_val 34 (.int .u8 165) H (by kernel_rfl) (by kernel_rfl) (by kernel_rfl) ((by kernel_rfl : _ = val (aload T20 5 (.pointer (some ⟨B, 0 + (l.length + k) * 1, none⟩)) H) H).trans (val_of ((aload_at gB).trans (aloadC_cellB (n := 1) (by kernel_rfl) (by kernel_rfl) (fill_get hk))))) ?_
    refine aops_go 2 60 (by kernel_rfl) ?_
    refine aops_end (by kernel_rfl) (then_normal ?_)
    refine aw_code f14bccacaacaac_eq ?_
    refine aw_cond (t := false) (by kernel_rfl) ?_
    refine aw_skip (blk_normal (then_normal ?_))
    refine aw_code f14bccacaacc_eq ?_
    refine aw_reg ?_
    refine aops_go 2 60 (by kernel_rfl) ?_
    refine aops_see 30 (.int .i64 ((l.length + k + 1 : Nat) : Int)) (see_int (x := (IntKind.i64.wrap (((l.length + k : Nat) : Int) + 1))) (by kernel_rfl) (w64 (by omega) (by omega) (by omega))) ?_
    refine aops_go 1 60 (by kernel_rfl) ?_
    refine aops_end (by kernel_rfl) (then_normal ⟨80 - (k + 1), by omega, k + 1, rfl, by omega, ⟨by kernel_rfl, by kernel_rfl, by kernel_rfl, True.intro⟩, by kernel_rfl⟩)
  · skip
    refine aw_code f14bccacaa_eq ?_
    refine aw_then ?_
    refine aw_code f14bccacaaa_eq ?_
    refine aw_then ?_
    refine aw_code f14bccacaaaa_eq ?_
    refine aw_reg ?_
    refine aops_go 4 60 (by kernel_rfl) ?_
    refine aops_end (by kernel_rfl) (then_normal ?_)
    refine aw_code f14bccacaaac_eq ?_
    refine aw_cond (t := false) (see_bool (by kernel_rfl) ((by simp; omega) : ((decide (((l.length + k : Nat) : Int) < (((l.length + 80) : Nat) : Int)))) = false)) ?_
    refine aw_exit (then_exit (then_exit (blk_hit (then_normal ?_))))
    refine aw_code f14bccc_eq ?_
    refine aw_then ?_
    refine aw_code f14bccca_eq ?_
    refine aw_reg ?_
    refine aops_go 1 60 (by kernel_rfl) ?_
    refine aops_end (by kernel_rfl) (then_normal ?_)
    refine aw_ret (bodyQ_ret_to (.bool true) H (by kernel_rfl) (by kernel_rfl) ?_)
    exact ⟨rfl, rfl⟩
end Gc
end Go.Proofs.YtpfmmckbfejfnaaDoor
