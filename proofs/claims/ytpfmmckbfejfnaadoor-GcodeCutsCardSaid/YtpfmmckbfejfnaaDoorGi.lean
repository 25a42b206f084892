/- Chapter 2: code that is cut off. -/
import Derived.Test.YtpfmmckbfejfnaaDoorGh
import Derived.Test.YtpfmmckbfejfnaaDoorGr
namespace Go.Proofs.YtpfmmckbfejfnaaDoor
open Go Go.Ev Go.RowKit
set_option linter.unusedVariables false
set_option linter.unusedSimpArgs false
set_option maxRecDepth 100000
namespace Gc
theorem Gr.own {H : Heap} {lo : Nat} {e : TypeId} {s len c B : Nat} {xs : List Value} (h : Gr H lo e s (.slice (some ⟨B, 0, none⟩) len c) len xs) : H.get B = some ⟨xs, e, false⟩ ∧ B < H.n ∧ lo ≤ B := by
  rcases h.at_ with ⟨h1, _⟩ | ⟨B3, h1, h2, h3, h4⟩
  · cases h1
  · obtain ⟨hp, _, _⟩ := Value.slice.inj h1
    injection hp with hp
    injection hp with hp _ _
    subst hp
    exact ⟨h2, h3, h4⟩
theorem within_nat {cut : Int} (h : i64B cut = true) {n : Nat} (hn : n ≤ 100000) : ∃ k : Nat, sp26 [.int .i64 cut, .int .i64 0, .int .i64 ((n : Nat) : Int)] = some (.int .i64 ((k : Nat) : Int)) ∧ k ≤ n := by
  simp only [i64B, Bool.and_eq_true, decide_eq_true_eq] at h
  have h1 := Int.emod_nonneg cut (show (n : Int) + 1 ≠ 0 by omega)
  have h2 := Int.emod_lt_of_pos cut (show 0 < (n : Int) + 1 by omega)
  refine ⟨(cut % ((n : Int) + 1)).toNat, ?_, by omega⟩
  rw [orc26 cut 0 n (by simp only [inB, Bool.and_eq_true, decide_eq_true_eq]; omega), Int.toNat_of_nonneg h1, Int.zero_add, Int.sub_zero]
noncomputable def f8b : Code := Tryd.f8.body.getD .skip
noncomputable def f8ba : Code := cl f8b
noncomputable def f8bao : Array Oper := opsOf f8ba
noncomputable def f8bc : Code := cr f8b
noncomputable def f8bca : Code := cl f8bc
noncomputable def f8bcao : Array Oper := opsOf f8bca
noncomputable def f8bcc : Code := cr f8bc
noncomputable def f8bcca : Code := cl f8bcc
noncomputable def f8bccao : Array Oper := opsOf f8bcca
noncomputable def f8bccc : Code := cr f8bcc
noncomputable def f8bccca : Code := cl f8bccc
noncomputable def f8bcccaa : Code := cl f8bccca
noncomputable def f8bcccaao : Array Oper := opsOf f8bcccaa
noncomputable def f8bcccac : Code := cr f8bccca
noncomputable def f8bcccaca : Code := cl f8bcccac
noncomputable def f8bcccacaa : Code := cl f8bcccaca
noncomputable def f8bcccacaaa : Code := cl f8bcccacaa
noncomputable def f8bcccacaaaa : Code := cl f8bcccacaaa
noncomputable def f8bcccacaaaao : Array Oper := opsOf f8bcccacaaaa
noncomputable def f8bcccacaaac : Code := cr f8bcccacaaa
noncomputable def f8bcccacaac : Code := cr f8bcccacaa
noncomputable def f8bcccacaaca : Code := cl f8bcccacaac
noncomputable def f8bcccacaacaa : Code := cl f8bcccacaaca
noncomputable def f8bcccacaacaaa : Code := cl f8bcccacaacaa
noncomputable def f8bcccacaacaaao : Array Oper := opsOf f8bcccacaacaaa
noncomputable def f8bcccacaacaac : Code := cr f8bcccacaacaa
noncomputable def f8bcccacaacaaca : Code := cl f8bcccacaacaac
noncomputable def f8bcccacaacaacaa : Code := cl f8bcccacaacaaca
noncomputable def f8bcccacaacaacaao : Array Oper := opsOf f8bcccacaacaacaa
noncomputable def f8bcccacaacaacac : Code := cr f8bcccacaacaaca
noncomputable def f8bcccacaacaacaca : Code := cl f8bcccacaacaacac
noncomputable def f8bcccacaacaacacaa : Code := cl f8bcccacaacaacaca
noncomputable def f8bcccacaacaacacaao : Array Oper := opsOf f8bcccacaacaacacaa
noncomputable def f8bcccacaacaacc : Code := cr f8bcccacaacaac
noncomputable def f8bcccacaacaacca : Code := cl f8bcccacaacaacc
noncomputable def f8bcccacaacaaccao : Array Oper := opsOf f8bcccacaacaacca
noncomputable def f8bcccacaacaaccc : Code := cr f8bcccacaacaacc
noncomputable def f8bcccacaacaaccco : Array Oper := opsOf f8bcccacaacaaccc
noncomputable def f8bcccacaacc : Code := cr f8bcccacaac
noncomputable def f8bcccacaacco : Array Oper := opsOf f8bcccacaacc
noncomputable def f8bcccc : Code := cr f8bccc
noncomputable def f8bcccca : Code := cl f8bcccc
noncomputable def f8bccccao : Array Oper := opsOf f8bcccca
noncomputable def f8bccccc : Code := cr f8bcccc
noncomputable def f8bccccca : Code := cl f8bccccc
noncomputable def f8bcccccao : Array Oper := opsOf f8bccccca
noncomputable def f8bcccccc : Code := cr f8bccccc
noncomputable def f8bcccccca : Code := cl f8bcccccc
noncomputable def f8bccccccaa : Code := cl f8bcccccca
noncomputable def f8bccccccaao : Array Oper := opsOf f8bccccccaa
noncomputable def f8bccccccac : Code := cr f8bcccccca
noncomputable def f8bccccccaca : Code := cl f8bccccccac
noncomputable def f8bccccccacaa : Code := cl f8bccccccaca
noncomputable def f8bccccccacaaa : Code := cl f8bccccccacaa
noncomputable def f8bccccccacaaaa : Code := cl f8bccccccacaaa
noncomputable def f8bccccccacaaaao : Array Oper := opsOf f8bccccccacaaaa
noncomputable def f8bccccccacaaac : Code := cr f8bccccccacaaa
noncomputable def f8bccccccacaac : Code := cr f8bccccccacaa
noncomputable def f8bccccccacaaca : Code := cl f8bccccccacaac
noncomputable def f8bccccccacaacaa : Code := cl f8bccccccacaaca
noncomputable def f8bccccccacaacaaa : Code := cl f8bccccccacaacaa
noncomputable def f8bccccccacaacaaao : Array Oper := opsOf f8bccccccacaacaaa
noncomputable def f8bccccccacaacaac : Code := cr f8bccccccacaacaa
noncomputable def f8bccccccacaacaaca : Code := cl f8bccccccacaacaac
noncomputable def f8bccccccacaacaacao : Array Oper := opsOf f8bccccccacaacaaca
noncomputable def f8bccccccacaacc : Code := cr f8bccccccacaac
noncomputable def f8bccccccacaacco : Array Oper := opsOf f8bccccccacaacc
noncomputable def f8bccccccc : Code := cr f8bcccccc
noncomputable def f8bccccccca : Code := cl f8bccccccc
noncomputable def f8bcccccccao : Array Oper := opsOf f8bccccccca
noncomputable def f8bcccccccc : Code := cr f8bccccccc
noncomputable def f8bcccccccca : Code := cl f8bcccccccc
noncomputable def f8bccccccccaa : Code := cl f8bcccccccca
noncomputable def f8bccccccccaao : Array Oper := opsOf f8bccccccccaa
noncomputable def f8bccccccccac : Code := cr f8bcccccccca
noncomputable def f8bccccccccaca : Code := cl f8bccccccccac
noncomputable def f8bccccccccacaa : Code := cl f8bccccccccaca
noncomputable def f8bccccccccacaao : Array Oper := opsOf f8bccccccccacaa
noncomputable def f8bccccccccc : Code := cr f8bcccccccc
noncomputable def f8bccccccccca : Code := cl f8bccccccccc
noncomputable def f8bcccccccccao : Array Oper := opsOf f8bccccccccca
noncomputable def f8bcccccccccc : Code := cr f8bccccccccc
noncomputable def f8bcccccccccca : Code := cl f8bcccccccccc
noncomputable def f8bccccccccccao : Array Oper := opsOf f8bcccccccccca
theorem f8ba_eq : f8ba = .region 0 f8bao false := by kernel_rfl
theorem f8bca_eq : f8bca = .region 1 f8bcao false := by kernel_rfl
theorem f8bcca_eq : f8bcca = .region 2 f8bccao false := by kernel_rfl
theorem f8bcccaa_eq : f8bcccaa = .region 3 f8bcccaao false := by kernel_rfl
theorem f8bcccacaaaa_eq : f8bcccacaaaa = .region 4 f8bcccacaaaao false := by kernel_rfl
theorem f8bcccacaaac_eq : f8bcccacaaac = .cond (cop f8bcccacaaac) .skip (.exit 0) := by kernel_rfl
theorem f8bcccacaaa_eq : f8bcccacaaa = .seq f8bcccacaaaa f8bcccacaaac := by kernel_rfl
theorem f8bcccacaacaaa_eq : f8bcccacaacaaa = .region 6 f8bcccacaacaaao true := by kernel_rfl
theorem f8bcccacaacaacaa_eq : f8bcccacaacaacaa = .region 7 f8bcccacaacaacaao false := by kernel_rfl
theorem f8bcccacaacaacacaa_eq : f8bcccacaacaacacaa = .region 8 f8bcccacaacaacacaao false := by kernel_rfl
theorem f8bcccacaacaacaca_eq : f8bcccacaacaacaca = .seq f8bcccacaacaacacaa .ret := by kernel_rfl
theorem f8bcccacaacaacac_eq : f8bcccacaacaacac = .cond (cop f8bcccacaacaacac) f8bcccacaacaacaca .skip := by kernel_rfl
theorem f8bcccacaacaaca_eq : f8bcccacaacaaca = .seq f8bcccacaacaacaa f8bcccacaacaacac := by kernel_rfl
theorem f8bcccacaacaacca_eq : f8bcccacaacaacca = .region 9 f8bcccacaacaaccao false := by kernel_rfl
theorem f8bcccacaacaaccc_eq : f8bcccacaacaaccc = .region 10 f8bcccacaacaaccco false := by kernel_rfl
theorem f8bcccacaacaacc_eq : f8bcccacaacaacc = .seq f8bcccacaacaacca f8bcccacaacaaccc := by kernel_rfl
theorem f8bcccacaacaac_eq : f8bcccacaacaac = .seq f8bcccacaacaaca f8bcccacaacaacc := by kernel_rfl
theorem f8bcccacaacaa_eq : f8bcccacaacaa = .seq f8bcccacaacaaa f8bcccacaacaac := by kernel_rfl
theorem f8bcccacaaca_eq : f8bcccacaaca = .block 1 f8bcccacaacaa := by kernel_rfl
theorem f8bcccacaacc_eq : f8bcccacaacc = .region 5 f8bcccacaacco false := by kernel_rfl
theorem f8bcccacaac_eq : f8bcccacaac = .seq f8bcccacaaca f8bcccacaacc := by kernel_rfl
theorem f8bcccacaa_eq : f8bcccacaa = .seq f8bcccacaaa f8bcccacaac := by kernel_rfl
theorem f8bcccaca_eq : f8bcccaca = .loop f8bcccacaa := by kernel_rfl
theorem f8bcccac_eq : f8bcccac = .block 0 f8bcccaca := by kernel_rfl
theorem f8bccca_eq : f8bccca = .seq f8bcccaa f8bcccac := by kernel_rfl
theorem f8bcccca_eq : f8bcccca = .region 11 f8bccccao false := by kernel_rfl
theorem f8bccccca_eq : f8bccccca = .region 12 f8bcccccao false := by kernel_rfl
theorem f8bccccccaa_eq : f8bccccccaa = .region 13 f8bccccccaao false := by kernel_rfl
theorem f8bccccccacaaaa_eq : f8bccccccacaaaa = .region 14 f8bccccccacaaaao false := by kernel_rfl
theorem f8bccccccacaaac_eq : f8bccccccacaaac = .cond (cop f8bccccccacaaac) .skip (.exit 2) := by kernel_rfl
theorem f8bccccccacaaa_eq : f8bccccccacaaa = .seq f8bccccccacaaaa f8bccccccacaaac := by kernel_rfl
theorem f8bccccccacaacaaa_eq : f8bccccccacaacaaa = .region 16 f8bccccccacaacaaao false := by kernel_rfl
theorem f8bccccccacaacaaca_eq : f8bccccccacaacaaca = .region 17 f8bccccccacaacaacao false := by kernel_rfl
theorem f8bccccccacaacaac_eq : f8bccccccacaacaac = .cond (cop f8bccccccacaacaac) f8bccccccacaacaaca .skip := by kernel_rfl
theorem f8bccccccacaacaa_eq : f8bccccccacaacaa = .seq f8bccccccacaacaaa f8bccccccacaacaac := by kernel_rfl
theorem f8bccccccacaaca_eq : f8bccccccacaaca = .block 3 f8bccccccacaacaa := by kernel_rfl
theorem f8bccccccacaacc_eq : f8bccccccacaacc = .region 15 f8bccccccacaacco false := by kernel_rfl
theorem f8bccccccacaac_eq : f8bccccccacaac = .seq f8bccccccacaaca f8bccccccacaacc := by kernel_rfl
theorem f8bccccccacaa_eq : f8bccccccacaa = .seq f8bccccccacaaa f8bccccccacaac := by kernel_rfl
theorem f8bccccccaca_eq : f8bccccccaca = .loop f8bccccccacaa := by kernel_rfl
theorem f8bccccccac_eq : f8bccccccac = .block 2 f8bccccccaca := by kernel_rfl
theorem f8bcccccca_eq : f8bcccccca = .seq f8bccccccaa f8bccccccac := by kernel_rfl
theorem f8bccccccca_eq : f8bccccccca = .region 18 f8bcccccccao false := by kernel_rfl
theorem f8bccccccccaa_eq : f8bccccccccaa = .region 19 f8bccccccccaao false := by kernel_rfl
theorem f8bccccccccacaa_eq : f8bccccccccacaa = .region 20 f8bccccccccacaao false := by kernel_rfl
theorem f8bccccccccaca_eq : f8bccccccccaca = .seq f8bccccccccacaa .ret := by kernel_rfl
theorem f8bccccccccac_eq : f8bccccccccac = .cond (cop f8bccccccccac) f8bccccccccaca .skip := by kernel_rfl
theorem f8bcccccccca_eq : f8bcccccccca = .seq f8bccccccccaa f8bccccccccac := by kernel_rfl
theorem f8bccccccccca_eq : f8bccccccccca = .region 21 f8bcccccccccao false := by kernel_rfl
theorem f8bcccccccccca_eq : f8bcccccccccca = .region 22 f8bccccccccccao false := by kernel_rfl
theorem f8bcccccccccc_eq : f8bcccccccccc = .seq f8bcccccccccca .ret := by kernel_rfl
theorem f8bccccccccc_eq : f8bccccccccc = .seq f8bccccccccca f8bcccccccccc := by kernel_rfl
theorem f8bcccccccc_eq : f8bcccccccc = .seq f8bcccccccca f8bccccccccc := by kernel_rfl
theorem f8bccccccc_eq : f8bccccccc = .seq f8bccccccca f8bcccccccc := by kernel_rfl
theorem f8bcccccc_eq : f8bcccccc = .seq f8bcccccca f8bccccccc := by kernel_rfl
theorem f8bccccc_eq : f8bccccc = .seq f8bccccca f8bcccccc := by kernel_rfl
theorem f8bcccc_eq : f8bcccc = .seq f8bcccca f8bccccc := by kernel_rfl
theorem f8bccc_eq : f8bccc = .seq f8bccca f8bcccc := by kernel_rfl
theorem f8bcc_eq : f8bcc = .seq f8bcca f8bccc := by kernel_rfl
theorem f8bc_eq : f8bc = .seq f8bca f8bcc := by kernel_rfl
theorem f8b_eq : f8b = .seq f8ba f8bc := by kernel_rfl
theorem f8_body : Tryd.f8.body = some f8b := by kernel_rfl
theorem f8_fn : T20.fn 8 = some Tryd.f8 := by kernel_rfl
set_option maxHeartbeats 1000000 in
theorem cuts_run {H : Heap} {p1 p2 : Option Addr} {c1 c2 : Nat} {ls ns : List Int} {cut : Int} (hN1 : Nums H .i64 (.slice p1 ls.length c1) ls) (hN2 : Nums H .u32 (.slice p2 ns.length c2) ns) (hls : ∀ x ∈ ls, i64B x = true) (hns : ∀ x ∈ ns, u32B x = true) (hcut : i64B cut = true) : ACall Tryd.prog T20 8 #[(.slice p1 ls.length c1), (.slice p2 ns.length c2), .int .i64 cut] H fun r H' => r = .bool true := by
  refine acall_of' 115 (initTm 0 #[(.slice p1 ls.length c1), (.slice p2 ns.length c2), .int .i64 cut]) rfl f8_fn f8_body rfl rfl ?_
  refine aw_code f8b_eq ?_
  refine aw_then ?_
  refine aw_code f8ba_eq ?_
  refine aw_reg ?_
  refine aops_go 1 60 (by kernel_rfl) ?_
  refine aops_end (by kernel_rfl) (then_normal ?_)
  refine aw_code f8bc_eq ?_
  refine aw_then ?_
  refine aw_code f8bca_eq ?_
  refine aw_reg ?_
  refine aops_go 1 60 (by kernel_rfl) ?_
  refine aops_end (by kernel_rfl) (then_normal ?_)
  refine aw_code f8bcc_eq ?_
  refine aw_then ?_
  refine aw_code f8bcca_eq ?_
  refine aw_reg ?_
  obtain ⟨H1_, hH1_⟩ : ∃ x : Heap, x = H.push ⟨[Value.int .i64 0], 3, false⟩ := ⟨_, rfl⟩
  have nH1_ : H1_.n = H.n + 1 := by rw [hH1_]; rfl
  refine aops_val 20 (.slice (some ⟨H.n, 0, none⟩) 1 1) H1_ (by kernel_rfl) (by kernel_rfl) (by kernel_rfl) ((by kernel_rfl : _ = some (Res.val (.slice (some ⟨H.n, 0, none⟩) 1 1), H.push ⟨[Value.int .i64 0], 3, false⟩)).trans (by rw [← hH1_])) ?_
  refine aops_go 1 60 (by kernel_rfl) ?_
  refine aops_end (by kernel_rfl) (then_normal ?_)
  refine aw_code f8bccc_eq ?_
  refine aw_then ?_
  refine aw_code f8bccca_eq ?_
  refine aw_then ?_
  refine aw_code f8bcccaa_eq ?_
  refine aw_reg ?_
  refine aops_go 1 60 (by kernel_rfl) ?_
  refine aops_end (by kernel_rfl) (then_normal ?_)
  refine aw_code f8bcccac_eq ?_
  refine aw_block ?_
  refine aw_code f8bcccaca_eq ?_
  have gH1_H_n : H1_.get (H.n) = some ⟨[Value.int .i64 0], 3, false⟩ := by rw [hH1_]; exact (Heap.get_push _ _ _).trans (if_pos rfl)
  refine aw_loop (fun m st => ∃ (i : Nat) (bv : Value) (E c : Nat) (H1 : Heap), m = 20 - i ∧ i ≤ 20 ∧ i ≤ ls.length ∧ i ≤ ns.length ∧ Kn st.tm [(0, (.slice p1 ls.length c1)), (1, (.slice p2 ns.length c2)), (2, .int .i64 cut), (7, bv), (8, .slice (some ⟨E, 0, none⟩) (i + 1) c), (9, .int .i64 ((i : Nat) : Int))] ∧ st.H = H1 ∧ Up H.n H H1 ∧ Gr H1 H.n 5 1 bv (endAt ls ns i) ((joinB (cutL ls ns i)).map (Value.int .u8)) ∧ H1.get E = some ⟨endC ls ns i, 3, false⟩ ∧ E < H1.n ∧ H.n ≤ E ∧ (c = unk + 1 ∨ c = i + 1) ∧ (∀ B c k, bv = .slice (some ⟨B, 0, none⟩) c k → E ≠ B)) 20 ⟨0, .slice none 0 0, H.n, 1, H1_, rfl, by omega, by omega, by omega, ⟨by kernel_rfl, by kernel_rfl, by kernel_rfl, by kernel_rfl, by kernel_rfl, by kernel_rfl, True.intro⟩, by kernel_rfl, ⟨by omega, fun b hb => by rw [hH1_, Heap.get_push, if_neg (by omega)]⟩, Gr.nil, gH1_H_n, by omega, by omega, .inr rfl, fun B c k h => by cases h⟩ ?_
  rintro m st ⟨i, bv, E, c, H1, hm, hi20, hil, hin, hkn, hH, hup, hgr, gE, hE1, hE2, hc, hbE⟩
  have nH1 := hup.n
  have hea := endAt_le ls ns i
  refine aw_kn' [(0, (.slice p1 ls.length c1)), (1, (.slice p2 ns.length c2)), (2, .int .i64 cut), (7, bv), (8, .slice (some ⟨E, 0, none⟩) (i + 1) c), (9, .int .i64 ((i : Nat) : Int))] hkn hH fun tm => ?_
  rcases (by omega : ls.length ≤ i ∨ (i < ls.length ∧ ns.length ≤ i) ∨ (i < ls.length ∧ i < ns.length ∧ 20 ≤ i) ∨ (i < ls.length ∧ i < ns.length ∧ i < 20)) with h1 | ⟨h1, h2⟩ | ⟨h1, h2, h3⟩ | ⟨h1, h2, h3⟩
  · skip
    obtain ⟨l2, hl2⟩ : ∃ l2, l2 = joinB (cutL ls ns i) := ⟨_, rfl⟩
    have hle2 : endAt ls ns i = l2.length := by rw [hl2]; rfl
    have hb2 : ∀ x ∈ l2, 0 ≤ x ∧ x < 256 := by rw [hl2]; exact joinB_byte (cutL_ok hns i)
    rw [← hl2, hle2] at hgr
    obtain ⟨pt, cap, rfl, hB, hC⟩ := Gr.bytsC hb2 hgr
    obtain ⟨k, hk, hkl⟩ := within_nat hcut (n := l2.length) (by omega)
    refine aw_code f8bcccacaa_eq ?_
    refine aw_then ?_
    refine aw_code f8bcccacaaa_eq ?_
    refine aw_then ?_
    refine aw_code f8bcccacaaaa_eq ?_
    refine aw_reg ?_
    refine aops_go 5 60 (by kernel_rfl) ?_
    refine aops_see 25 (.bool false) (see_bool (by kernel_rfl) ((decide_eq_false (by omega)) : ((decide (((i : Nat) : Int) < ((ls.length : Nat) : Int)))) = false)) ?_
    refine aops_go 9 60 (by kernel_rfl) ?_
    refine aops_end (by kernel_rfl) (then_normal ?_)
    refine aw_code f8bcccacaaac_eq ?_
    refine aw_cond (t := false) (by kernel_rfl) ?_
    refine aw_exit (then_exit (then_exit (blk_hit (then_normal ?_))))
    refine aw_code f8bcccc_eq ?_
    refine aw_then ?_
    refine aw_code f8bcccca_eq ?_
    refine aw_reg ?_
    refine aops_go 3 60 (by kernel_rfl) ?_
    refine aops_ask 68 (.int .i64 ((k : Nat) : Int)) 26 #[.int .i64 cut, .int .i64 0, .int .i64 ((l2.length : Nat) : Int)] (by kernel_rfl) (by kernel_rfl) (by kernel_rfl) (by kernel_rfl) hk ?_
    refine aops_go 1 60 (by kernel_rfl) ?_
    refine aops_end (by kernel_rfl) (then_normal ?_)
    refine aw_code f8bccccc_eq ?_
    refine aw_then ?_
    refine aw_code f8bccccca_eq ?_
    refine aw_reg ?_
    refine aops_go 1 60 (by kernel_rfl) ?_
    refine aops_end (by kernel_rfl) (then_normal ?_)
    refine aw_code f8bcccccc_eq ?_
    refine aw_then ?_
    refine aw_code f8bcccccca_eq ?_
    refine aw_then ?_
    refine aw_code f8bccccccaa_eq ?_
    refine aw_reg ?_
    refine aops_go 1 60 (by kernel_rfl) ?_
    refine aops_end (by kernel_rfl) (then_normal ?_)
    refine aw_code f8bccccccac_eq ?_
    refine aw_block ?_
    refine aw_code f8bccccccaca_eq ?_
    refine aw_loop (fun m st => ∃ (j w : Nat), m = i + 1 - j ∧ j ≤ i + 1 ∧ w ≤ i ∧ endAt ls ns w ≤ k ∧ (∀ x, x < j → endAt ls ns x ≤ k → x ≤ w) ∧ Kn st.tm [(7, .slice pt l2.length cap), (8, .slice (some ⟨E, 0, none⟩) (i + 1) c), (12, .int .i64 ((k : Nat) : Int)), (13, .int .i64 ((w : Nat) : Int)), (14, .int .i64 ((j : Nat) : Int))] ∧ st.H = H1) (i + 1) ⟨0, 0, rfl, by omega, by omega, by have := endAt_le ls ns 0; omega, fun x hx => by omega, ⟨by kernel_rfl, by kernel_rfl, by kernel_rfl, by kernel_rfl, by kernel_rfl, True.intro⟩, by kernel_rfl⟩ ?_
    rintro m st ⟨j, w, hm2, hj, hwi, hwk, hmax, hkn2, hH2⟩
    refine aw_kn' [(7, .slice pt l2.length cap), (8, .slice (some ⟨E, 0, none⟩) (i + 1) c), (12, .int .i64 ((k : Nat) : Int)), (13, .int .i64 ((w : Nat) : Int)), (14, .int .i64 ((j : Nat) : Int))] hkn2 hH2 fun tm => ?_
    rcases (by omega : (j < i + 1 ∧ endAt ls ns j ≤ k) ∨ (j < i + 1 ∧ k < endAt ls ns j) ∨ j = i + 1) with ⟨h5, h6⟩ | ⟨h5, h6⟩ | h5
    · skip
      refine aw_code f8bccccccacaa_eq ?_
      refine aw_then ?_
      refine aw_code f8bccccccacaaa_eq ?_
      refine aw_then ?_
      refine aw_code f8bccccccacaaaa_eq ?_
      refine aw_reg ?_
      refine aops_go 4 60 (by kernel_rfl) ?_
      refine aops_end (by kernel_rfl) (then_normal ?_)
      refine aw_code f8bccccccacaaac_eq ?_
      refine aw_cond (t := true) (see_bool (by kernel_rfl) ((decide_eq_true (by omega)) : ((decide (((j : Nat) : Int) < (((i + 1) : Nat) : Int)))) = true)) ?_
      refine aw_skip (then_normal ?_)
      refine aw_code f8bccccccacaac_eq ?_
      refine aw_then ?_
      refine aw_code f8bccccccacaaca_eq ?_
      refine aw_block ?_
      refine aw_code f8bccccccacaacaa_eq ?_
      refine aw_then ?_
      refine aw_code f8bccccccacaacaaa_eq ?_
      refine aw_reg ?_
      refine aops_go 2 60 (by kernel_rfl) ?_
      refine aops_val 77 (.pointer (some ⟨E, 0 + j * 1, none⟩)) H1 (by kernel_rfl) (by kernel_rfl) (by kernel_rfl) ((by kernel_rfl : _ = val (bif (j : Nat).blt (i + 1) then some (.pointer (some ⟨E, 0 + j * 1, none⟩)) else none) H1).trans (by rw [show (j : Nat).blt (i + 1) = true from (by rw [blt_dec]; simp only [decide_eq_true_eq]; omega)]; rfl)) ?_
      refine aops_val 78 (.int .i64 (((endAt ls ns j) : Nat) : Int)) H1 (by kernel_rfl) (by kernel_rfl) (by kernel_rfl) ((by kernel_rfl : _ = val (aload T20 3 (.pointer (some ⟨E, 0 + j * 1, none⟩)) H1) H1).trans (val_of ((aload_at gE).trans (aloadC_cellB (n := 1) (by kernel_rfl) (by kernel_rfl) (endC_get ls ns (by omega)))))) ?_
      refine aops_go 2 60 (by kernel_rfl) ?_
      refine aops_end (by kernel_rfl) (then_normal ?_)
      refine aw_code f8bccccccacaacaac_eq ?_
      refine aw_cond (t := true) (see_bool (by kernel_rfl) ((decide_eq_true (by omega)) : ((decide ((((endAt ls ns j) : Nat) : Int) ≤ ((k : Nat) : Int)))) = true)) ?_
      refine aw_code f8bccccccacaacaaca_eq ?_
      refine aw_reg ?_
      refine aops_go 2 60 (by kernel_rfl) ?_
      refine aops_end (by kernel_rfl) (blk_normal (then_normal ?_))
      refine aw_code f8bccccccacaacc_eq ?_
      refine aw_reg ?_
      refine aops_go 2 60 (by kernel_rfl) ?_
      refine aops_see 74 (.int .i64 ((j + 1 : Nat) : Int)) (see_int (x := (IntKind.i64.wrap (((j : Nat) : Int) + 1))) (by kernel_rfl) (w64 (by omega) (by omega) (by omega))) ?_
      refine aops_go 1 60 (by kernel_rfl) ?_
      refine aops_end (by kernel_rfl) (then_normal ⟨i + 1 - (j + 1), by omega, j + 1, j, rfl, by omega, by omega, by omega, ?_, ⟨by kernel_rfl, by kernel_rfl, by kernel_rfl, by kernel_rfl, by kernel_rfl, True.intro⟩, by kernel_rfl⟩)
      intro x hx hx2
      rcases Nat.lt_or_ge x j with h9 | h9
      · have := hmax x h9 hx2; omega
      · obtain rfl : x = j := by omega
        omega
    · skip
      refine aw_code f8bccccccacaa_eq ?_
      refine aw_then ?_
      refine aw_code f8bccccccacaaa_eq ?_
      refine aw_then ?_
      refine aw_code f8bccccccacaaaa_eq ?_
      refine aw_reg ?_
      refine aops_go 4 60 (by kernel_rfl) ?_
      refine aops_end (by kernel_rfl) (then_normal ?_)
      refine aw_code f8bccccccacaaac_eq ?_
      refine aw_cond (t := true) (see_bool (by kernel_rfl) ((decide_eq_true (by omega)) : ((decide (((j : Nat) : Int) < (((i + 1) : Nat) : Int)))) = true)) ?_
      refine aw_skip (then_normal ?_)
      refine aw_code f8bccccccacaac_eq ?_
      refine aw_then ?_
      refine aw_code f8bccccccacaaca_eq ?_
      refine aw_block ?_
      refine aw_code f8bccccccacaacaa_eq ?_
      refine aw_then ?_
      refine aw_code f8bccccccacaacaaa_eq ?_
      refine aw_reg ?_
      refine aops_go 2 60 (by kernel_rfl) ?_
      refine aops_val 77 (.pointer (some ⟨E, 0 + j * 1, none⟩)) H1 (by kernel_rfl) (by kernel_rfl) (by kernel_rfl) ((by kernel_rfl : _ = val (bif (j : Nat).blt (i + 1) then some (.pointer (some ⟨E, 0 + j * 1, none⟩)) else none) H1).trans (by rw [show (j : Nat).blt (i + 1) = true from (by rw [blt_dec]; simp only [decide_eq_true_eq]; omega)]; rfl)) ?_
      refine aops_val 78 (.int .i64 (((endAt ls ns j) : Nat) : Int)) H1 (by kernel_rfl) (by kernel_rfl) (by kernel_rfl) ((by kernel_rfl : _ = val (aload T20 3 (.pointer (some ⟨E, 0 + j * 1, none⟩)) H1) H1).trans (val_of ((aload_at gE).trans (aloadC_cellB (n := 1) (by kernel_rfl) (by kernel_rfl) (endC_get ls ns (by omega)))))) ?_
      refine aops_go 2 60 (by kernel_rfl) ?_
      refine aops_end (by kernel_rfl) (then_normal ?_)
      refine aw_code f8bccccccacaacaac_eq ?_
      refine aw_cond (t := false) (see_bool (by kernel_rfl) ((decide_eq_false (by omega)) : ((decide ((((endAt ls ns j) : Nat) : Int) ≤ ((k : Nat) : Int)))) = false)) ?_
      refine aw_skip (blk_normal (then_normal ?_))
      refine aw_code f8bccccccacaacc_eq ?_
      refine aw_reg ?_
      refine aops_go 2 60 (by kernel_rfl) ?_
      refine aops_see 74 (.int .i64 ((j + 1 : Nat) : Int)) (see_int (x := (IntKind.i64.wrap (((j : Nat) : Int) + 1))) (by kernel_rfl) (w64 (by omega) (by omega) (by omega))) ?_
      refine aops_go 1 60 (by kernel_rfl) ?_
      refine aops_end (by kernel_rfl) (then_normal ⟨i + 1 - (j + 1), by omega, j + 1, w, rfl, by omega, by omega, by omega, ?_, ⟨by kernel_rfl, by kernel_rfl, by kernel_rfl, by kernel_rfl, by kernel_rfl, True.intro⟩, by kernel_rfl⟩)
      intro x hx hx2
      rcases Nat.lt_or_ge x j with h9 | h9
      · have := hmax x h9 hx2; omega
      · obtain rfl : x = j := by omega
        omega
    · skip
      have hw2 : w < i → k < endAt ls ns (w + 1) := fun h => by
        rcases Nat.lt_or_ge k (endAt ls ns (w + 1)) with h9 | h9
        · exact h9
        · have := hmax (w + 1) (by omega) h9; omega
      refine aw_code f8bccccccacaa_eq ?_
      refine aw_then ?_
      refine aw_code f8bccccccacaaa_eq ?_
      refine aw_then ?_
      refine aw_code f8bccccccacaaaa_eq ?_
      refine aw_reg ?_
      refine aops_go 4 60 (by kernel_rfl) ?_
      refine aops_end (by kernel_rfl) (then_normal ?_)
      refine aw_code f8bccccccacaaac_eq ?_
      refine aw_cond (t := false) (see_bool (by kernel_rfl) ((decide_eq_false (by omega)) : ((decide (((j : Nat) : Int) < (((i + 1) : Nat) : Int)))) = false)) ?_
      refine aw_exit (then_exit (then_exit (blk_hit (then_normal ?_))))
      refine aw_code f8bccccccc_eq ?_
      refine aw_then ?_
      refine aw_code f8bccccccca_eq ?_
      refine aw_reg ?_
      refine aops_go 2 60 (by kernel_rfl) ?_
      obtain ⟨pt1_, cap1_, hs1_, hB1_, hC1_⟩ := aslice_byts (T := T20) (t := 27) (e := 5) (by kernel_rfl) (by kernel_rfl) hB hC 0 k (vlo := none) (vhi := (some (.int .i64 (Int.ofNat k)))) (.inl ⟨rfl, rfl⟩) (.inr rfl) (by omega) (by omega)
      rw [List.drop_zero] at hB1_
      refine aops_val 85 (.slice pt1_ (k - 0) cap1_) H1 (by kernel_rfl) (by kernel_rfl) (by kernel_rfl) (ha_sl (H := H1) (t := 27) (x := .tmp 83) (lo := none) (hi := (some (.tmp 84))) (mx := none) (u := (.slice pt l2.length cap)) (l := none) (h := (some (.int .i64 (Int.ofNat k)))) (m := none) (by kernel_rfl) (by kernel_rfl) (by kernel_rfl) (by kernel_rfl) (by kernel_rfl) (by kernel_rfl) hs1_ (by kernel_rfl)) ?_
      have hlk : (List.take k l2).length = k := by simp; omega
      have hb3 : ∀ x ∈ List.take k l2, 0 ≤ x ∧ x < 256 := fun x hx => hb2 x (List.mem_of_mem_take hx)
      refine aops_call_to 86 22 #[(.slice pt1_ (k - 0) cap1_)] H1 (by kernel_rfl) (by kernel_rfl) (fun v => (by kernel_rfl)) (by kernel_rfl) (by kernel_rfl) (by rw [show k - 0 = (List.take k l2).length by omega] at hB1_ hC1_ ⊢; exact all_any hB1_ hC1_ hb3 (by omega)) ?_
      rintro _ H2_ ⟨is, e, ov, rfl, hdec, hne, hga, uH2_⟩
      have nH2_ := uH2_.n
      obtain ⟨pt3, cap3, rfl⟩ := Gr.form hga
      have hcl := cuts_law (L := cutL ls ns i) (cutL_ok hns i) (k := k) (w := w) (by rw [cutL_len]; omega) (by rw [← hl2]; omega) (by rw [cutL_take ls ns hwi]; exact hwk) (fun h => by rw [cutL_len] at h; rw [cutL_take ls ns (by omega)]; exact hw2 h) (is := is) (e := e) (by rw [← hl2]; exact hdec) (by rw [← hl2]; exact hne)
      obtain ⟨hi1, hi2, hi3⟩ := hcl
      rw [← hl2] at hi3
      rw [cutL_take ls ns hwi] at hi1 hi2
      have hiw : is.length = w := by rw [hi1, cutL_len]
      have hew : e = endAt ls ns w := hi2
      have hek : e ≤ k := by omega
      rcases hd : readL (List.drop e (List.take k l2)) with ⟨a, N, sz, er⟩
      rw [hd] at hi3
      simp only at hi3
      subst hi3
      refine aops_go 5 60 (by kernel_rfl) ?_
      refine aops_end (by kernel_rfl) (then_normal ?_)
      refine aw_code f8bcccccccc_eq ?_
      refine aw_then ?_
      refine aw_code f8bcccccccca_eq ?_
      refine aw_then ?_
      refine aw_code f8bccccccccaa_eq ?_
      refine aw_reg ?_
      refine aops_go 5 60 (by kernel_rfl) ?_
      refine aops_see 93 (.bool false) (see_bool (by kernel_rfl) ((by simp; omega) : ((((is.length : Nat) : Int) != ((w : Nat) : Int))) = false)) ?_
      refine aops_go 3 60 (by kernel_rfl) ?_
      refine aops_val 97 (.pointer (some ⟨E, 0 + w * 1, none⟩)) H2_ (by kernel_rfl) (by kernel_rfl) (by kernel_rfl) ((by kernel_rfl : _ = val (bif (w : Nat).blt (i + 1) then some (.pointer (some ⟨E, 0 + w * 1, none⟩)) else none) H2_).trans (by rw [show (w : Nat).blt (i + 1) = true from (by rw [blt_dec]; simp only [decide_eq_true_eq]; omega)]; rfl)) ?_
      have gH2_E : H2_.get (E) = some ⟨(endC ls ns i), 3, false⟩ := by rw [uH2_.get _ (by omega)]; exact gE
      refine aops_val 98 (.int .i64 (((endAt ls ns w) : Nat) : Int)) H2_ (by kernel_rfl) (by kernel_rfl) (by kernel_rfl) ((by kernel_rfl : _ = val (aload T20 3 (.pointer (some ⟨E, 0 + w * 1, none⟩)) H2_) H2_).trans (val_of ((aload_at gH2_E).trans (aloadC_cellB (n := 1) (by kernel_rfl) (by kernel_rfl) (endC_get ls ns (by omega)))))) ?_
      refine aops_go 2 60 (by kernel_rfl) ?_
      refine aops_end (by kernel_rfl) (then_normal ?_)
      refine aw_code f8bccccccccac_eq ?_
      refine aw_cond (t := false) (see_bool (by kernel_rfl) ((by simp; omega) : ((((e : Nat) : Int) != (((endAt ls ns w) : Nat) : Int))) = false)) ?_
      refine aw_skip (then_normal ?_)
      refine aw_code f8bccccccccc_eq ?_
      refine aw_then ?_
      refine aw_code f8bccccccccca_eq ?_
      refine aw_reg ?_
      refine aops_go 3 60 (by kernel_rfl) ?_
      obtain ⟨pt2_, cap2_, hs2_, hB2_, hC2_⟩ := aslice_byts (T := T20) (t := 27) (e := 5) (by kernel_rfl) (by kernel_rfl) (hB.keep (H' := H2_) (by omega) (fun b hb => by rw [uH2_.get _ (by omega)])) hC e k (vlo := (some (.int .i64 (Int.ofNat e)))) (vhi := (some (.int .i64 (Int.ofNat k)))) (.inr rfl) (.inr rfl) (by omega) (by omega)
      refine aops_val 105 (.slice pt2_ (k - e) cap2_) H2_ (by kernel_rfl) (by kernel_rfl) (by kernel_rfl) (ha_sl (H := H2_) (t := 27) (x := .tmp 102) (lo := (some (.tmp 103))) (hi := (some (.tmp 104))) (mx := none) (u := (.slice pt l2.length cap)) (l := (some (.int .i64 (Int.ofNat e)))) (h := (some (.int .i64 (Int.ofNat k)))) (m := none) (by kernel_rfl) (by kernel_rfl) (by kernel_rfl) (by kernel_rfl) (by kernel_rfl) (by kernel_rfl) hs2_ (by kernel_rfl)) ?_
      refine aops_call_to 106 23 #[(.slice pt2_ (k - e) cap2_)] H2_ (by kernel_rfl) (by kernel_rfl) (fun v => (by kernel_rfl)) (by kernel_rfl) (by kernel_rfl) (dec_to hB2_ hd) ?_
      rintro _ H3_ ⟨rfl, uH3_⟩
      have nH3_ := uH3_.n
      refine aops_go 4 60 (by kernel_rfl) ?_
      obtain ⟨H4_, hH4_⟩ : ∃ x : Heap, x = H3_.push ⟨[Value.int .i64 0, .int .u32 0], 26, false⟩ := ⟨_, rfl⟩
      have nH4_ : H4_.n = H3_.n + 1 := by rw [hH4_]; rfl
      refine aops_val 17 (.pointer (some ⟨H3_.n, 0, none⟩)) H4_ (by kernel_rfl) (by kernel_rfl) (by kernel_rfl) ((by kernel_rfl : _ = some (Res.val (.pointer (some ⟨H3_.n, 0, none⟩)), H3_.push ⟨[Value.int .i64 0, .int .u32 0], 26, false⟩)).trans (by rw [← hH4_])) ?_
      have gH4_H3__n : H4_.get (H3_.n) = some ⟨[Value.int .i64 0, .int .u32 0], 26, false⟩ := by rw [hH4_]; exact (Heap.get_push _ _ _).trans (if_pos rfl)
      obtain ⟨H5_, hH5_⟩ : ∃ x : Heap, x = H4_.put (H3_.n) ⟨[Value.int .i64 a, .int .u32 N], 26, false⟩ := ⟨_, rfl⟩
      have nH5_ : H5_.n = H4_.n := by rw [hH5_]; rfl
      refine aops_skip H5_ (by kernel_rfl) (by kernel_rfl) (by kernel_rfl) ((by kernel_rfl : _ = skp (astore T20 26 (.pointer (some ⟨H3_.n, 0, none⟩)) (.agg #[.int .i64 a, .int .u32 N]) H4_)).trans (by rw [astore_to gH4_H3__n (by kernel_rfl), ← hH5_]; rfl)) ?_
      refine aops_go 2 60 (by kernel_rfl) ?_
      refine aops_end (by kernel_rfl) (then_normal ?_)
      refine aw_code f8bcccccccccc_eq ?_
      refine aw_then ?_
      refine aw_code f8bcccccccccca_eq ?_
      refine aw_reg ?_
      refine aops_go 3 60 (by kernel_rfl) ?_
      refine aops_ask 113 (.bool true) 11 #[] (by kernel_rfl) (by kernel_rfl) (by kernel_rfl) (by kernel_rfl) (by kernel_rfl) ?_
      refine aops_go 2 60 (by kernel_rfl) ?_
      refine aops_end (by kernel_rfl) (then_normal ?_)
      refine aw_ret (bodyQ_ret_to (.bool true) H5_ (by kernel_rfl) (by kernel_rfl) ?_)
      rfl
  · skip
    obtain ⟨l2, hl2⟩ : ∃ l2, l2 = joinB (cutL ls ns i) := ⟨_, rfl⟩
    have hle2 : endAt ls ns i = l2.length := by rw [hl2]; rfl
    have hb2 : ∀ x ∈ l2, 0 ≤ x ∧ x < 256 := by rw [hl2]; exact joinB_byte (cutL_ok hns i)
    rw [← hl2, hle2] at hgr
    obtain ⟨pt, cap, rfl, hB, hC⟩ := Gr.bytsC hb2 hgr
    obtain ⟨k, hk, hkl⟩ := within_nat hcut (n := l2.length) (by omega)
    refine aw_code f8bcccacaa_eq ?_
    refine aw_then ?_
    refine aw_code f8bcccacaaa_eq ?_
    refine aw_then ?_
    refine aw_code f8bcccacaaaa_eq ?_
    refine aw_reg ?_
    refine aops_go 5 60 (by kernel_rfl) ?_
    refine aops_see 25 (.bool true) (see_bool (by kernel_rfl) ((decide_eq_true (by omega)) : ((decide (((i : Nat) : Int) < ((ls.length : Nat) : Int)))) = true)) ?_
    refine aops_go 6 60 (by kernel_rfl) ?_
    refine aops_see 31 (.bool false) (see_bool (by kernel_rfl) ((decide_eq_false (by omega)) : ((decide (((i : Nat) : Int) < ((ns.length : Nat) : Int)))) = false)) ?_
    refine aops_go 3 60 (by kernel_rfl) ?_
    refine aops_end (by kernel_rfl) (then_normal ?_)
    refine aw_code f8bcccacaaac_eq ?_
    refine aw_cond (t := false) (by kernel_rfl) ?_
    refine aw_exit (then_exit (then_exit (blk_hit (then_normal ?_))))
    refine aw_code f8bcccc_eq ?_
    refine aw_then ?_
    refine aw_code f8bcccca_eq ?_
    refine aw_reg ?_
    refine aops_go 3 60 (by kernel_rfl) ?_
    refine aops_ask 68 (.int .i64 ((k : Nat) : Int)) 26 #[.int .i64 cut, .int .i64 0, .int .i64 ((l2.length : Nat) : Int)] (by kernel_rfl) (by kernel_rfl) (by kernel_rfl) (by kernel_rfl) hk ?_
    refine aops_go 1 60 (by kernel_rfl) ?_
    refine aops_end (by kernel_rfl) (then_normal ?_)
    refine aw_code f8bccccc_eq ?_
    refine aw_then ?_
    refine aw_code f8bccccca_eq ?_
    refine aw_reg ?_
    refine aops_go 1 60 (by kernel_rfl) ?_
    refine aops_end (by kernel_rfl) (then_normal ?_)
    refine aw_code f8bcccccc_eq ?_
    refine aw_then ?_
    refine aw_code f8bcccccca_eq ?_
    refine aw_then ?_
    refine aw_code f8bccccccaa_eq ?_
    refine aw_reg ?_
    refine aops_go 1 60 (by kernel_rfl) ?_
    refine aops_end (by kernel_rfl) (then_normal ?_)
    refine aw_code f8bccccccac_eq ?_
    refine aw_block ?_
    refine aw_code f8bccccccaca_eq ?_
    refine aw_loop (fun m st => ∃ (j w : Nat), m = i + 1 - j ∧ j ≤ i + 1 ∧ w ≤ i ∧ endAt ls ns w ≤ k ∧ (∀ x, x < j → endAt ls ns x ≤ k → x ≤ w) ∧ Kn st.tm [(7, .slice pt l2.length cap), (8, .slice (some ⟨E, 0, none⟩) (i + 1) c), (12, .int .i64 ((k : Nat) : Int)), (13, .int .i64 ((w : Nat) : Int)), (14, .int .i64 ((j : Nat) : Int))] ∧ st.H = H1) (i + 1) ⟨0, 0, rfl, by omega, by omega, by have := endAt_le ls ns 0; omega, fun x hx => by omega, ⟨by kernel_rfl, by kernel_rfl, by kernel_rfl, by kernel_rfl, by kernel_rfl, True.intro⟩, by kernel_rfl⟩ ?_
    rintro m st ⟨j, w, hm2, hj, hwi, hwk, hmax, hkn2, hH2⟩
    refine aw_kn' [(7, .slice pt l2.length cap), (8, .slice (some ⟨E, 0, none⟩) (i + 1) c), (12, .int .i64 ((k : Nat) : Int)), (13, .int .i64 ((w : Nat) : Int)), (14, .int .i64 ((j : Nat) : Int))] hkn2 hH2 fun tm => ?_
    rcases (by omega : (j < i + 1 ∧ endAt ls ns j ≤ k) ∨ (j < i + 1 ∧ k < endAt ls ns j) ∨ j = i + 1) with ⟨h5, h6⟩ | ⟨h5, h6⟩ | h5
    · skip
      refine aw_code f8bccccccacaa_eq ?_
      refine aw_then ?_
      refine aw_code f8bccccccacaaa_eq ?_
      refine aw_then ?_
      refine aw_code f8bccccccacaaaa_eq ?_
      refine aw_reg ?_
      refine aops_go 4 60 (by kernel_rfl) ?_
      refine aops_end (by kernel_rfl) (then_normal ?_)
      refine aw_code f8bccccccacaaac_eq ?_
      refine aw_cond (t := true) (see_bool (by kernel_rfl) ((decide_eq_true (by omega)) : ((decide (((j : Nat) : Int) < (((i + 1) : Nat) : Int)))) = true)) ?_
      refine aw_skip (then_normal ?_)
      refine aw_code f8bccccccacaac_eq ?_
      refine aw_then ?_
      refine aw_code f8bccccccacaaca_eq ?_
      refine aw_block ?_
      refine aw_code f8bccccccacaacaa_eq ?_
      refine aw_then ?_
      refine aw_code f8bccccccacaacaaa_eq ?_
      refine aw_reg ?_
      refine aops_go 2 60 (by kernel_rfl) ?_
      refine aops_val 77 (.pointer (some ⟨E, 0 + j * 1, none⟩)) H1 (by kernel_rfl) (by kernel_rfl) (by kernel_rfl) ((by kernel_rfl : _ = val (bif (j : Nat).blt (i + 1) then some (.pointer (some ⟨E, 0 + j * 1, none⟩)) else none) H1).trans (by rw [show (j : Nat).blt (i + 1) = true from (by rw [blt_dec]; simp only [decide_eq_true_eq]; omega)]; rfl)) ?_
      refine aops_val 78 (.int .i64 (((endAt ls ns j) : Nat) : Int)) H1 (by kernel_rfl) (by kernel_rfl) (by kernel_rfl) ((by kernel_rfl : _ = val (aload T20 3 (.pointer (some ⟨E, 0 + j * 1, none⟩)) H1) H1).trans (val_of ((aload_at gE).trans (aloadC_cellB (n := 1) (by kernel_rfl) (by kernel_rfl) (endC_get ls ns (by omega)))))) ?_
      refine aops_go 2 60 (by kernel_rfl) ?_
      refine aops_end (by kernel_rfl) (then_normal ?_)
      refine aw_code f8bccccccacaacaac_eq ?_
      refine aw_cond (t := true) (see_bool (by kernel_rfl) ((decide_eq_true (by omega)) : ((decide ((((endAt ls ns j) : Nat) : Int) ≤ ((k : Nat) : Int)))) = true)) ?_
      refine aw_code f8bccccccacaacaaca_eq ?_
      refine aw_reg ?_
      refine aops_go 2 60 (by kernel_rfl) ?_
      refine aops_end (by kernel_rfl) (blk_normal (then_normal ?_))
      refine aw_code f8bccccccacaacc_eq ?_
      refine aw_reg ?_
      refine aops_go 2 60 (by kernel_rfl) ?_
      refine aops_see 74 (.int .i64 ((j + 1 : Nat) : Int)) (see_int (x := (IntKind.i64.wrap (((j : Nat) : Int) + 1))) (by kernel_rfl) (w64 (by omega) (by omega) (by omega))) ?_
      refine aops_go 1 60 (by kernel_rfl) ?_
      refine aops_end (by kernel_rfl) (then_normal ⟨i + 1 - (j + 1), by omega, j + 1, j, rfl, by omega, by omega, by omega, ?_, ⟨by kernel_rfl, by kernel_rfl, by kernel_rfl, by kernel_rfl, by kernel_rfl, True.intro⟩, by kernel_rfl⟩)
      intro x hx hx2
      rcases Nat.lt_or_ge x j with h9 | h9
      · have := hmax x h9 hx2; omega
      · obtain rfl : x = j := by omega
        omega
    · skip
      refine aw_code f8bccccccacaa_eq ?_
      refine aw_then ?_
      refine aw_code f8bccccccacaaa_eq ?_
      refine aw_then ?_
      refine aw_code f8bccccccacaaaa_eq ?_
      refine aw_reg ?_
      refine aops_go 4 60 (by kernel_rfl) ?_
      refine aops_end (by kernel_rfl) (then_normal ?_)
      refine aw_code f8bccccccacaaac_eq ?_
      refine aw_cond (t := true) (see_bool (by kernel_rfl) ((decide_eq_true (by omega)) : ((decide (((j : Nat) : Int) < (((i + 1) : Nat) : Int)))) = true)) ?_
      refine aw_skip (then_normal ?_)
      refine aw_code f8bccccccacaac_eq ?_
      refine aw_then ?_
      refine aw_code f8bccccccacaaca_eq ?_
      refine aw_block ?_
      refine aw_code f8bccccccacaacaa_eq ?_
      refine aw_then ?_
      refine aw_code f8bccccccacaacaaa_eq ?_
      refine aw_reg ?_
      refine aops_go 2 60 (by kernel_rfl) ?_
      refine aops_val 77 (.pointer (some ⟨E, 0 + j * 1, none⟩)) H1 (by kernel_rfl) (by kernel_rfl) (by kernel_rfl) ((by kernel_rfl : _ = val (bif (j : Nat).blt (i + 1) then some (.pointer (some ⟨E, 0 + j * 1, none⟩)) else none) H1).trans (by rw [show (j : Nat).blt (i + 1) = true from (by rw [blt_dec]; simp only [decide_eq_true_eq]; omega)]; rfl)) ?_
      refine aops_val 78 (.int .i64 (((endAt ls ns j) : Nat) : Int)) H1 (by kernel_rfl) (by kernel_rfl) (by kernel_rfl) ((by kernel_rfl : _ = val (aload T20 3 (.pointer (some ⟨E, 0 + j * 1, none⟩)) H1) H1).trans (val_of ((aload_at gE).trans (aloadC_cellB (n := 1) (by kernel_rfl) (by kernel_rfl) (endC_get ls ns (by omega)))))) ?_
      refine aops_go 2 60 (by kernel_rfl) ?_
      refine aops_end (by kernel_rfl) (then_normal ?_)
      refine aw_code f8bccccccacaacaac_eq ?_
      refine aw_cond (t := false) (see_bool (by kernel_rfl) ((decide_eq_false (by omega)) : ((decide ((((endAt ls ns j) : Nat) : Int) ≤ ((k : Nat) : Int)))) = false)) ?_
      refine aw_skip (blk_normal (then_normal ?_))
      refine aw_code f8bccccccacaacc_eq ?_
      refine aw_reg ?_
      refine aops_go 2 60 (by kernel_rfl) ?_
      refine aops_see 74 (.int .i64 ((j + 1 : Nat) : Int)) (see_int (x := (IntKind.i64.wrap (((j : Nat) : Int) + 1))) (by kernel_rfl) (w64 (by omega) (by omega) (by omega))) ?_
      refine aops_go 1 60 (by kernel_rfl) ?_
      refine aops_end (by kernel_rfl) (then_normal ⟨i + 1 - (j + 1), by omega, j + 1, w, rfl, by omega, by omega, by omega, ?_, ⟨by kernel_rfl, by kernel_rfl, by kernel_rfl, by kernel_rfl, by kernel_rfl, True.intro⟩, by kernel_rfl⟩)
      intro x hx hx2
      rcases Nat.lt_or_ge x j with h9 | h9
      · have := hmax x h9 hx2; omega
      · obtain rfl : x = j := by omega
        omega
    · skip
      have hw2 : w < i → k < endAt ls ns (w + 1) := fun h => by
        rcases Nat.lt_or_ge k (endAt ls ns (w + 1)) with h9 | h9
        · exact h9
        · have := hmax (w + 1) (by omega) h9; omega
      refine aw_code f8bccccccacaa_eq ?_
      refine aw_then ?_
      refine aw_code f8bccccccacaaa_eq ?_
      refine aw_then ?_
      refine aw_code f8bccccccacaaaa_eq ?_
      refine aw_reg ?_
      refine aops_go 4 60 (by kernel_rfl) ?_
      refine aops_end (by kernel_rfl) (then_normal ?_)
      refine aw_code f8bccccccacaaac_eq ?_
      refine aw_cond (t := false) (see_bool (by kernel_rfl) ((decide_eq_false (by omega)) : ((decide (((j : Nat) : Int) < (((i + 1) : Nat) : Int)))) = false)) ?_
      refine aw_exit (then_exit (then_exit (blk_hit (then_normal ?_))))
      refine aw_code f8bccccccc_eq ?_
      refine aw_then ?_
      refine aw_code f8bccccccca_eq ?_
      refine aw_reg ?_
      refine aops_go 2 60 (by kernel_rfl) ?_
      obtain ⟨pt3_, cap3_, hs3_, hB3_, hC3_⟩ := aslice_byts (T := T20) (t := 27) (e := 5) (by kernel_rfl) (by kernel_rfl) hB hC 0 k (vlo := none) (vhi := (some (.int .i64 (Int.ofNat k)))) (.inl ⟨rfl, rfl⟩) (.inr rfl) (by omega) (by omega)
      rw [List.drop_zero] at hB3_
      refine aops_val 85 (.slice pt3_ (k - 0) cap3_) H1 (by kernel_rfl) (by kernel_rfl) (by kernel_rfl) (ha_sl (H := H1) (t := 27) (x := .tmp 83) (lo := none) (hi := (some (.tmp 84))) (mx := none) (u := (.slice pt l2.length cap)) (l := none) (h := (some (.int .i64 (Int.ofNat k)))) (m := none) (by kernel_rfl) (by kernel_rfl) (by kernel_rfl) (by kernel_rfl) (by kernel_rfl) (by kernel_rfl) hs3_ (by kernel_rfl)) ?_
      have hlk : (List.take k l2).length = k := by simp; omega
      have hb3 : ∀ x ∈ List.take k l2, 0 ≤ x ∧ x < 256 := fun x hx => hb2 x (List.mem_of_mem_take hx)
      refine aops_call_to 86 22 #[(.slice pt3_ (k - 0) cap3_)] H1 (by kernel_rfl) (by kernel_rfl) (fun v => (by kernel_rfl)) (by kernel_rfl) (by kernel_rfl) (by rw [show k - 0 = (List.take k l2).length by omega] at hB3_ hC3_ ⊢; exact all_any hB3_ hC3_ hb3 (by omega)) ?_
      rintro _ H6_ ⟨is, e, ov, rfl, hdec, hne, hga, uH6_⟩
      have nH6_ := uH6_.n
      obtain ⟨pt3, cap3, rfl⟩ := Gr.form hga
      have hcl := cuts_law (L := cutL ls ns i) (cutL_ok hns i) (k := k) (w := w) (by rw [cutL_len]; omega) (by rw [← hl2]; omega) (by rw [cutL_take ls ns hwi]; exact hwk) (fun h => by rw [cutL_len] at h; rw [cutL_take ls ns (by omega)]; exact hw2 h) (is := is) (e := e) (by rw [← hl2]; exact hdec) (by rw [← hl2]; exact hne)
      obtain ⟨hi1, hi2, hi3⟩ := hcl
      rw [← hl2] at hi3
      rw [cutL_take ls ns hwi] at hi1 hi2
      have hiw : is.length = w := by rw [hi1, cutL_len]
      have hew : e = endAt ls ns w := hi2
      have hek : e ≤ k := by omega
      rcases hd : readL (List.drop e (List.take k l2)) with ⟨a, N, sz, er⟩
      rw [hd] at hi3
      simp only at hi3
      subst hi3
      refine aops_go 5 60 (by kernel_rfl) ?_
      refine aops_end (by kernel_rfl) (then_normal ?_)
      refine aw_code f8bcccccccc_eq ?_
      refine aw_then ?_
      refine aw_code f8bcccccccca_eq ?_
      refine aw_then ?_
      refine aw_code f8bccccccccaa_eq ?_
      refine aw_reg ?_
      refine aops_go 5 60 (by kernel_rfl) ?_
      refine aops_see 93 (.bool false) (see_bool (by kernel_rfl) ((by simp; omega) : ((((is.length : Nat) : Int) != ((w : Nat) : Int))) = false)) ?_
      refine aops_go 3 60 (by kernel_rfl) ?_
      refine aops_val 97 (.pointer (some ⟨E, 0 + w * 1, none⟩)) H6_ (by kernel_rfl) (by kernel_rfl) (by kernel_rfl) ((by kernel_rfl : _ = val (bif (w : Nat).blt (i + 1) then some (.pointer (some ⟨E, 0 + w * 1, none⟩)) else none) H6_).trans (by rw [show (w : Nat).blt (i + 1) = true from (by rw [blt_dec]; simp only [decide_eq_true_eq]; omega)]; rfl)) ?_
      have gH6_E : H6_.get (E) = some ⟨(endC ls ns i), 3, false⟩ := by rw [uH6_.get _ (by omega)]; exact gE
      refine aops_val 98 (.int .i64 (((endAt ls ns w) : Nat) : Int)) H6_ (by kernel_rfl) (by kernel_rfl) (by kernel_rfl) ((by kernel_rfl : _ = val (aload T20 3 (.pointer (some ⟨E, 0 + w * 1, none⟩)) H6_) H6_).trans (val_of ((aload_at gH6_E).trans (aloadC_cellB (n := 1) (by kernel_rfl) (by kernel_rfl) (endC_get ls ns (by omega)))))) ?_
      refine aops_go 2 60 (by kernel_rfl) ?_
      refine aops_end (by kernel_rfl) (then_normal ?_)
      refine aw_code f8bccccccccac_eq ?_
      refine aw_cond (t := false) (see_bool (by kernel_rfl) ((by simp; omega) : ((((e : Nat) : Int) != (((endAt ls ns w) : Nat) : Int))) = false)) ?_
      refine aw_skip (then_normal ?_)
      refine aw_code f8bccccccccc_eq ?_
      refine aw_then ?_
      refine aw_code f8bccccccccca_eq ?_
      refine aw_reg ?_
      refine aops_go 3 60 (by kernel_rfl) ?_
      obtain ⟨pt4_, cap4_, hs4_, hB4_, hC4_⟩ := aslice_byts (T := T20) (t := 27) (e := 5) (by kernel_rfl) (by kernel_rfl) (hB.keep (H' := H6_) (by omega) (fun b hb => by rw [uH6_.get _ (by omega)])) hC e k (vlo := (some (.int .i64 (Int.ofNat e)))) (vhi := (some (.int .i64 (Int.ofNat k)))) (.inr rfl) (.inr rfl) (by omega) (by omega)
      refine aops_val 105 (.slice pt4_ (k - e) cap4_) H6_ (by kernel_rfl) (by kernel_rfl) (by kernel_rfl) (ha_sl (H := H6_) (t := 27) (x := .tmp 102) (lo := (some (.tmp 103))) (hi := (some (.tmp 104))) (mx := none) (u := (.slice pt l2.length cap)) (l := (some (.int .i64 (Int.ofNat e)))) (h := (some (.int .i64 (Int.ofNat k)))) (m := none) (by kernel_rfl) (by kernel_rfl) (by kernel_rfl) (by kernel_rfl) (by kernel_rfl) (by kernel_rfl) hs4_ (by kernel_rfl)) ?_
      refine aops_call_to 106 23 #[(.slice pt4_ (k - e) cap4_)] H6_ (by kernel_rfl) (by kernel_rfl) (fun v => (by kernel_rfl)) (by kernel_rfl) (by kernel_rfl) (dec_to hB4_ hd) ?_
      rintro _ H7_ ⟨rfl, uH7_⟩
      have nH7_ := uH7_.n
      refine aops_go 4 60 (by kernel_rfl) ?_
      obtain ⟨H8_, hH8_⟩ : ∃ x : Heap, x = H7_.push ⟨[Value.int .i64 0, .int .u32 0], 26, false⟩ := ⟨_, rfl⟩
      have nH8_ : H8_.n = H7_.n + 1 := by rw [hH8_]; rfl
      refine aops_val 17 (.pointer (some ⟨H7_.n, 0, none⟩)) H8_ (by kernel_rfl) (by kernel_rfl) (by kernel_rfl) ((by kernel_rfl : _ = some (Res.val (.pointer (some ⟨H7_.n, 0, none⟩)), H7_.push ⟨[Value.int .i64 0, .int .u32 0], 26, false⟩)).trans (by rw [← hH8_])) ?_
      have gH8_H7__n : H8_.get (H7_.n) = some ⟨[Value.int .i64 0, .int .u32 0], 26, false⟩ := by rw [hH8_]; exact (Heap.get_push _ _ _).trans (if_pos rfl)
      obtain ⟨H9_, hH9_⟩ : ∃ x : Heap, x = H8_.put (H7_.n) ⟨[Value.int .i64 a, .int .u32 N], 26, false⟩ := ⟨_, rfl⟩
      have nH9_ : H9_.n = H8_.n := by rw [hH9_]; rfl
      refine aops_skip H9_ (by kernel_rfl) (by kernel_rfl) (by kernel_rfl) ((by kernel_rfl : _ = skp (astore T20 26 (.pointer (some ⟨H7_.n, 0, none⟩)) (.agg #[.int .i64 a, .int .u32 N]) H8_)).trans (by rw [astore_to gH8_H7__n (by kernel_rfl), ← hH9_]; rfl)) ?_
      refine aops_go 2 60 (by kernel_rfl) ?_
      refine aops_end (by kernel_rfl) (then_normal ?_)
      refine aw_code f8bcccccccccc_eq ?_
      refine aw_then ?_
      refine aw_code f8bcccccccccca_eq ?_
      refine aw_reg ?_
      refine aops_go 3 60 (by kernel_rfl) ?_
      refine aops_ask 113 (.bool true) 11 #[] (by kernel_rfl) (by kernel_rfl) (by kernel_rfl) (by kernel_rfl) (by kernel_rfl) ?_
      refine aops_go 2 60 (by kernel_rfl) ?_
      refine aops_end (by kernel_rfl) (then_normal ?_)
      refine aw_ret (bodyQ_ret_to (.bool true) H9_ (by kernel_rfl) (by kernel_rfl) ?_)
      rfl
  · skip
    obtain ⟨l2, hl2⟩ : ∃ l2, l2 = joinB (cutL ls ns i) := ⟨_, rfl⟩
    have hle2 : endAt ls ns i = l2.length := by rw [hl2]; rfl
    have hb2 : ∀ x ∈ l2, 0 ≤ x ∧ x < 256 := by rw [hl2]; exact joinB_byte (cutL_ok hns i)
    rw [← hl2, hle2] at hgr
    obtain ⟨pt, cap, rfl, hB, hC⟩ := Gr.bytsC hb2 hgr
    obtain ⟨k, hk, hkl⟩ := within_nat hcut (n := l2.length) (by omega)
    refine aw_code f8bcccacaa_eq ?_
    refine aw_then ?_
    refine aw_code f8bcccacaaa_eq ?_
    refine aw_then ?_
    refine aw_code f8bcccacaaaa_eq ?_
    refine aw_reg ?_
    refine aops_go 5 60 (by kernel_rfl) ?_
    refine aops_see 25 (.bool true) (see_bool (by kernel_rfl) ((decide_eq_true (by omega)) : ((decide (((i : Nat) : Int) < ((ls.length : Nat) : Int)))) = true)) ?_
    refine aops_go 6 60 (by kernel_rfl) ?_
    refine aops_see 31 (.bool true) (see_bool (by kernel_rfl) ((decide_eq_true (by omega)) : ((decide (((i : Nat) : Int) < ((ns.length : Nat) : Int)))) = true)) ?_
    refine aops_go 3 60 (by kernel_rfl) ?_
    refine aops_end (by kernel_rfl) (then_normal ?_)
    refine aw_code f8bcccacaaac_eq ?_
    refine aw_cond (t := false) (see_bool (by kernel_rfl) ((decide_eq_false (by omega)) : ((decide (((i : Nat) : Int) < 20))) = false)) ?_
    refine aw_exit (then_exit (then_exit (blk_hit (then_normal ?_))))
    refine aw_code f8bcccc_eq ?_
    refine aw_then ?_
    refine aw_code f8bcccca_eq ?_
    refine aw_reg ?_
    refine aops_go 3 60 (by kernel_rfl) ?_
    refine aops_ask 68 (.int .i64 ((k : Nat) : Int)) 26 #[.int .i64 cut, .int .i64 0, .int .i64 ((l2.length : Nat) : Int)] (by kernel_rfl) (by kernel_rfl) (by kernel_rfl) (by kernel_rfl) hk ?_
    refine aops_go 1 60 (by kernel_rfl) ?_
    refine aops_end (by kernel_rfl) (then_normal ?_)
    refine aw_code f8bccccc_eq ?_
    refine aw_then ?_
    refine aw_code f8bccccca_eq ?_
    refine aw_reg ?_
    refine aops_go 1 60 (by kernel_rfl) ?_
    refine aops_end (by kernel_rfl) (then_normal ?_)
    refine aw_code f8bcccccc_eq ?_
    refine aw_then ?_
    refine aw_code f8bcccccca_eq ?_
    refine aw_then ?_
    refine aw_code f8bccccccaa_eq ?_
    refine aw_reg ?_
    refine aops_go 1 60 (by kernel_rfl) ?_
    refine aops_end (by kernel_rfl) (then_normal ?_)
    refine aw_code f8bccccccac_eq ?_
    refine aw_block ?_
    refine aw_code f8bccccccaca_eq ?_
    refine aw_loop (fun m st => ∃ (j w : Nat), m = i + 1 - j ∧ j ≤ i + 1 ∧ w ≤ i ∧ endAt ls ns w ≤ k ∧ (∀ x, x < j → endAt ls ns x ≤ k → x ≤ w) ∧ Kn st.tm [(7, .slice pt l2.length cap), (8, .slice (some ⟨E, 0, none⟩) (i + 1) c), (12, .int .i64 ((k : Nat) : Int)), (13, .int .i64 ((w : Nat) : Int)), (14, .int .i64 ((j : Nat) : Int))] ∧ st.H = H1) (i + 1) ⟨0, 0, rfl, by omega, by omega, by have := endAt_le ls ns 0; omega, fun x hx => by omega, ⟨by kernel_rfl, by kernel_rfl, by kernel_rfl, by kernel_rfl, by kernel_rfl, True.intro⟩, by kernel_rfl⟩ ?_
    rintro m st ⟨j, w, hm2, hj, hwi, hwk, hmax, hkn2, hH2⟩
    refine aw_kn' [(7, .slice pt l2.length cap), (8, .slice (some ⟨E, 0, none⟩) (i + 1) c), (12, .int .i64 ((k : Nat) : Int)), (13, .int .i64 ((w : Nat) : Int)), (14, .int .i64 ((j : Nat) : Int))] hkn2 hH2 fun tm => ?_
    rcases (by omega : (j < i + 1 ∧ endAt ls ns j ≤ k) ∨ (j < i + 1 ∧ k < endAt ls ns j) ∨ j = i + 1) with ⟨h5, h6⟩ | ⟨h5, h6⟩ | h5
    · skip
      refine aw_code f8bccccccacaa_eq ?_
      refine aw_then ?_
      refine aw_code f8bccccccacaaa_eq ?_
      refine aw_then ?_
      refine aw_code f8bccccccacaaaa_eq ?_
      refine aw_reg ?_
      refine aops_go 4 60 (by kernel_rfl) ?_
      refine aops_end (by kernel_rfl) (then_normal ?_)
      refine aw_code f8bccccccacaaac_eq ?_
      refine aw_cond (t := true) (see_bool (by kernel_rfl) ((decide_eq_true (by omega)) : ((decide (((j : Nat) : Int) < (((i + 1) : Nat) : Int)))) = true)) ?_
      refine aw_skip (then_normal ?_)
      refine aw_code f8bccccccacaac_eq ?_
      refine aw_then ?_
      refine aw_code f8bccccccacaaca_eq ?_
      refine aw_block ?_
      refine aw_code f8bccccccacaacaa_eq ?_
      refine aw_then ?_
      refine aw_code f8bccccccacaacaaa_eq ?_
      refine aw_reg ?_
      refine aops_go 2 60 (by kernel_rfl) ?_
      refine aops_val 77 (.pointer (some ⟨E, 0 + j * 1, none⟩)) H1 (by kernel_rfl) (by kernel_rfl) (by kernel_rfl) ((by kernel_rfl : _ = val (bif (j : Nat).blt (i + 1) then some (.pointer (some ⟨E, 0 + j * 1, none⟩)) else none) H1).trans (by rw [show (j : Nat).blt (i + 1) = true from (by rw [blt_dec]; simp only [decide_eq_true_eq]; omega)]; rfl)) ?_
      refine aops_val 78 (.int .i64 (((endAt ls ns j) : Nat) : Int)) H1 (by kernel_rfl) (by kernel_rfl) (by kernel_rfl) ((by kernel_rfl : _ = val (aload T20 3 (.pointer (some ⟨E, 0 + j * 1, none⟩)) H1) H1).trans (val_of ((aload_at gE).trans (aloadC_cellB (n := 1) (by kernel_rfl) (by kernel_rfl) (endC_get ls ns (by omega)))))) ?_
      refine aops_go 2 60 (by kernel_rfl) ?_
      refine aops_end (by kernel_rfl) (then_normal ?_)
      refine aw_code f8bccccccacaacaac_eq ?_
      refine aw_cond (t := true) (see_bool (by kernel_rfl) ((decide_eq_true (by omega)) : ((decide ((((endAt ls ns j) : Nat) : Int) ≤ ((k : Nat) : Int)))) = true)) ?_
      refine aw_code f8bccccccacaacaaca_eq ?_
      refine aw_reg ?_
      refine aops_go 2 60 (by kernel_rfl) ?_
      refine aops_end (by kernel_rfl) (blk_normal (then_normal ?_))
      refine aw_code f8bccccccacaacc_eq ?_
      refine aw_reg ?_
      refine aops_go 2 60 (by kernel_rfl) ?_
      refine aops_see 74 (.int .i64 ((j + 1 : Nat) : Int)) (see_int (x := (IntKind.i64.wrap (((j : Nat) : Int) + 1))) (by kernel_rfl) (w64 (by omega) (by omega) (by omega))) ?_
      refine aops_go 1 60 (by kernel_rfl) ?_
      refine aops_end (by kernel_rfl) (then_normal ⟨i + 1 - (j + 1), by omega, j + 1, j, rfl, by omega, by omega, by omega, ?_, ⟨by kernel_rfl, by kernel_rfl, by kernel_rfl, by kernel_rfl, by kernel_rfl, True.intro⟩, by kernel_rfl⟩)
      intro x hx hx2
      rcases Nat.lt_or_ge x j with h9 | h9
      · have := hmax x h9 hx2; omega
      · obtain rfl : x = j := by omega
        omega
    · skip
      refine aw_code f8bccccccacaa_eq ?_
      refine aw_then ?_
      refine aw_code f8bccccccacaaa_eq ?_
      refine aw_then ?_
      refine aw_code f8bccccccacaaaa_eq ?_
      refine aw_reg ?_
      refine aops_go 4 60 (by kernel_rfl) ?_
      refine aops_end (by kernel_rfl) (then_normal ?_)
      refine aw_code f8bccccccacaaac_eq ?_
      refine aw_cond (t := true) (see_bool (by kernel_rfl) ((decide_eq_true (by omega)) : ((decide (((j : Nat) : Int) < (((i + 1) : Nat) : Int)))) = true)) ?_
      refine aw_skip (then_normal ?_)
      refine aw_code f8bccccccacaac_eq ?_
      refine aw_then ?_
      refine aw_code f8bccccccacaaca_eq ?_
      refine aw_block ?_
      refine aw_code f8bccccccacaacaa_eq ?_
      refine aw_then ?_
      refine aw_code f8bccccccacaacaaa_eq ?_
      refine aw_reg ?_
      refine aops_go 2 60 (by kernel_rfl) ?_
      refine aops_val 77 (.pointer (some ⟨E, 0 + j * 1, none⟩)) H1 (by kernel_rfl) (by kernel_rfl) (by kernel_rfl) ((by kernel_rfl : _ = val (bif (j : Nat).blt (i + 1) then some (.pointer (some ⟨E, 0 + j * 1, none⟩)) else none) H1).trans (by rw [show (j : Nat).blt (i + 1) = true from (by rw [blt_dec]; simp only [decide_eq_true_eq]; omega)]; rfl)) ?_
      refine aops_val 78 (.int .i64 (((endAt ls ns j) : Nat) : Int)) H1 (by kernel_rfl) (by kernel_rfl) (by kernel_rfl) ((by kernel_rfl : _ = val (aload T20 3 (.pointer (some ⟨E, 0 + j * 1, none⟩)) H1) H1).trans (val_of ((aload_at gE).trans (aloadC_cellB (n := 1) (by kernel_rfl) (by kernel_rfl) (endC_get ls ns (by omega)))))) ?_
      refine aops_go 2 60 (by kernel_rfl) ?_
      refine aops_end (by kernel_rfl) (then_normal ?_)
      refine aw_code f8bccccccacaacaac_eq ?_
      refine aw_cond (t := false) (see_bool (by kernel_rfl) ((decide_eq_false (by omega)) : ((decide ((((endAt ls ns j) : Nat) : Int) ≤ ((k : Nat) : Int)))) = false)) ?_
      refine aw_skip (blk_normal (then_normal ?_))
      refine aw_code f8bccccccacaacc_eq ?_
      refine aw_reg ?_
      refine aops_go 2 60 (by kernel_rfl) ?_
      refine aops_see 74 (.int .i64 ((j + 1 : Nat) : Int)) (see_int (x := (IntKind.i64.wrap (((j : Nat) : Int) + 1))) (by kernel_rfl) (w64 (by omega) (by omega) (by omega))) ?_
      refine aops_go 1 60 (by kernel_rfl) ?_
      refine aops_end (by kernel_rfl) (then_normal ⟨i + 1 - (j + 1), by omega, j + 1, w, rfl, by omega, by omega, by omega, ?_, ⟨by kernel_rfl, by kernel_rfl, by kernel_rfl, by kernel_rfl, by kernel_rfl, True.intro⟩, by kernel_rfl⟩)
      intro x hx hx2
      rcases Nat.lt_or_ge x j with h9 | h9
      · have := hmax x h9 hx2; omega
      · obtain rfl : x = j := by omega
        omega
    · skip
      have hw2 : w < i → k < endAt ls ns (w + 1) := fun h => by
        rcases Nat.lt_or_ge k (endAt ls ns (w + 1)) with h9 | h9
        · exact h9
        · have := hmax (w + 1) (by omega) h9; omega
      refine aw_code f8bccccccacaa_eq ?_
      refine aw_then ?_
      refine aw_code f8bccccccacaaa_eq ?_
      refine aw_then ?_
      refine aw_code f8bccccccacaaaa_eq ?_
      refine aw_reg ?_
      refine aops_go 4 60 (by kernel_rfl) ?_
      refine aops_end (by kernel_rfl) (then_normal ?_)
      refine aw_code f8bccccccacaaac_eq ?_
      refine aw_cond (t := false) (see_bool (by kernel_rfl) ((decide_eq_false (by omega)) : ((decide (((j : Nat) : Int) < (((i + 1) : Nat) : Int)))) = false)) ?_
      refine aw_exit (then_exit (then_exit (blk_hit (then_normal ?_))))
      refine aw_code f8bccccccc_eq ?_
      refine aw_then ?_
      refine aw_code f8bccccccca_eq ?_
      refine aw_reg ?_
      refine aops_go 2 60 (by kernel_rfl) ?_
      obtain ⟨pt5_, cap5_, hs5_, hB5_, hC5_⟩ := aslice_byts (T := T20) (t := 27) (e := 5) (by kernel_rfl) (by kernel_rfl) hB hC 0 k (vlo := none) (vhi := (some (.int .i64 (Int.ofNat k)))) (.inl ⟨rfl, rfl⟩) (.inr rfl) (by omega) (by omega)
      rw [List.drop_zero] at hB5_
      refine aops_val 85 (.slice pt5_ (k - 0) cap5_) H1 (by kernel_rfl) (by kernel_rfl) (by kernel_rfl) (ha_sl (H := H1) (t := 27) (x := .tmp 83) (lo := none) (hi := (some (.tmp 84))) (mx := none) (u := (.slice pt l2.length cap)) (l := none) (h := (some (.int .i64 (Int.ofNat k)))) (m := none) (by kernel_rfl) (by kernel_rfl) (by kernel_rfl) (by kernel_rfl) (by kernel_rfl) (by kernel_rfl) hs5_ (by kernel_rfl)) ?_
      have hlk : (List.take k l2).length = k := by simp; omega
      have hb3 : ∀ x ∈ List.take k l2, 0 ≤ x ∧ x < 256 := fun x hx => hb2 x (List.mem_of_mem_take hx)
      refine aops_call_to 86 22 #[(.slice pt5_ (k - 0) cap5_)] H1 (by kernel_rfl) (by kernel_rfl) (fun v => (by kernel_rfl)) (by kernel_rfl) (by kernel_rfl) (by rw [show k - 0 = (List.take k l2).length by omega] at hB5_ hC5_ ⊢; exact all_any hB5_ hC5_ hb3 (by omega)) ?_
      rintro _ H10_ ⟨is, e, ov, rfl, hdec, hne, hga, uH10_⟩
      have nH10_ := uH10_.n
      obtain ⟨pt3, cap3, rfl⟩ := Gr.form hga
      have hcl := cuts_law (L := cutL ls ns i) (cutL_ok hns i) (k := k) (w := w) (by rw [cutL_len]; omega) (by rw [← hl2]; omega) (by rw [cutL_take ls ns hwi]; exact hwk) (fun h => by rw [cutL_len] at h; rw [cutL_take ls ns (by omega)]; exact hw2 h) (is := is) (e := e) (by rw [← hl2]; exact hdec) (by rw [← hl2]; exact hne)
      obtain ⟨hi1, hi2, hi3⟩ := hcl
      rw [← hl2] at hi3
      rw [cutL_take ls ns hwi] at hi1 hi2
      have hiw : is.length = w := by rw [hi1, cutL_len]
      have hew : e = endAt ls ns w := hi2
      have hek : e ≤ k := by omega
      rcases hd : readL (List.drop e (List.take k l2)) with ⟨a, N, sz, er⟩
      rw [hd] at hi3
      simp only at hi3
      subst hi3
      refine aops_go 5 60 (by kernel_rfl) ?_
      refine aops_end (by kernel_rfl) (then_normal ?_)
      refine aw_code f8bcccccccc_eq ?_
      refine aw_then ?_
      refine aw_code f8bcccccccca_eq ?_
      refine aw_then ?_
      refine aw_code f8bccccccccaa_eq ?_
      refine aw_reg ?_
      refine aops_go 5 60 (by kernel_rfl) ?_
      refine aops_see 93 (.bool false) (see_bool (by kernel_rfl) ((by simp; omega) : ((((is.length : Nat) : Int) != ((w : Nat) : Int))) = false)) ?_
      refine aops_go 3 60 (by kernel_rfl) ?_
      refine aops_val 97 (.pointer (some ⟨E, 0 + w * 1, none⟩)) H10_ (by kernel_rfl) (by kernel_rfl) (by kernel_rfl) ((by kernel_rfl : _ = val (bif (w : Nat).blt (i + 1) then some (.pointer (some ⟨E, 0 + w * 1, none⟩)) else none) H10_).trans (by rw [show (w : Nat).blt (i + 1) = true from (by rw [blt_dec]; simp only [decide_eq_true_eq]; omega)]; rfl)) ?_
      have gH10_E : H10_.get (E) = some ⟨(endC ls ns i), 3, false⟩ := by rw [uH10_.get _ (by omega)]; exact gE
      refine aops_val 98 (.int .i64 (((endAt ls ns w) : Nat) : Int)) H10_ (by kernel_rfl) (by kernel_rfl) (by kernel_rfl) ((by kernel_rfl : _ = val (aload T20 3 (.pointer (some ⟨E, 0 + w * 1, none⟩)) H10_) H10_).trans (val_of ((aload_at gH10_E).trans (aloadC_cellB (n := 1) (by kernel_rfl) (by kernel_rfl) (endC_get ls ns (by omega)))))) ?_
      refine aops_go 2 60 (by kernel_rfl) ?_
      refine aops_end (by kernel_rfl) (then_normal ?_)
      refine aw_code f8bccccccccac_eq ?_
      refine aw_cond (t := false) (see_bool (by kernel_rfl) ((by simp; omega) : ((((e : Nat) : Int) != (((endAt ls ns w) : Nat) : Int))) = false)) ?_
      refine aw_skip (then_normal ?_)
      refine aw_code f8bccccccccc_eq ?_
      refine aw_then ?_
      refine aw_code f8bccccccccca_eq ?_
      refine aw_reg ?_
      refine aops_go 3 60 (by kernel_rfl) ?_
      obtain ⟨pt6_, cap6_, hs6_, hB6_, hC6_⟩ := aslice_byts (T := T20) (t := 27) (e := 5) (by kernel_rfl) (by kernel_rfl) (hB.keep (H' := H10_) (by omega) (fun b hb => by rw [uH10_.get _ (by omega)])) hC e k (vlo := (some (.int .i64 (Int.ofNat e)))) (vhi := (some (.int .i64 (Int.ofNat k)))) (.inr rfl) (.inr rfl) (by omega) (by omega)
      refine aops_val 105 (.slice pt6_ (k - e) cap6_) H10_ (by kernel_rfl) (by kernel_rfl) (by kernel_rfl) (ha_sl (H := H10_) (t := 27) (x := .tmp 102) (lo := (some (.tmp 103))) (hi := (some (.tmp 104))) (mx := none) (u := (.slice pt l2.length cap)) (l := (some (.int .i64 (Int.ofNat e)))) (h := (some (.int .i64 (Int.ofNat k)))) (m := none) (by kernel_rfl) (by kernel_rfl) (by kernel_rfl) (by kernel_rfl) (by kernel_rfl) (by kernel_rfl) hs6_ (by kernel_rfl)) ?_
      refine aops_call_to 106 23 #[(.slice pt6_ (k - e) cap6_)] H10_ (by kernel_rfl) (by kernel_rfl) (fun v => (by kernel_rfl)) (by kernel_rfl) (by kernel_rfl) (dec_to hB6_ hd) ?_
      rintro _ H11_ ⟨rfl, uH11_⟩
      have nH11_ := uH11_.n
      refine aops_go 4 60 (by kernel_rfl) ?_
      obtain ⟨H12_, hH12_⟩ : ∃ x : Heap, x = H11_.push ⟨[Value.int .i64 0, .int .u32 0], 26, false⟩ := ⟨_, rfl⟩
      have nH12_ : H12_.n = H11_.n + 1 := by rw [hH12_]; rfl
      refine aops_val 17 (.pointer (some ⟨H11_.n, 0, none⟩)) H12_ (by kernel_rfl) (by kernel_rfl) (by kernel_rfl) ((by kernel_rfl : _ = some (Res.val (.pointer (some ⟨H11_.n, 0, none⟩)), H11_.push ⟨[Value.int .i64 0, .int .u32 0], 26, false⟩)).trans (by rw [← hH12_])) ?_
      have gH12_H11__n : H12_.get (H11_.n) = some ⟨[Value.int .i64 0, .int .u32 0], 26, false⟩ := by rw [hH12_]; exact (Heap.get_push _ _ _).trans (if_pos rfl)
      obtain ⟨H13_, hH13_⟩ : ∃ x : Heap, x = H12_.put (H11_.n) ⟨[Value.int .i64 a, .int .u32 N], 26, false⟩ := ⟨_, rfl⟩
      have nH13_ : H13_.n = H12_.n := by rw [hH13_]; rfl
      refine aops_skip H13_ (by kernel_rfl) (by kernel_rfl) (by kernel_rfl) ((by kernel_rfl : _ = skp (astore T20 26 (.pointer (some ⟨H11_.n, 0, none⟩)) (.agg #[.int .i64 a, .int .u32 N]) H12_)).trans (by rw [astore_to gH12_H11__n (by kernel_rfl), ← hH13_]; rfl)) ?_
      refine aops_go 2 60 (by kernel_rfl) ?_
      refine aops_end (by kernel_rfl) (then_normal ?_)
      refine aw_code f8bcccccccccc_eq ?_
      refine aw_then ?_
      refine aw_code f8bcccccccccca_eq ?_
      refine aw_reg ?_
      refine aops_go 3 60 (by kernel_rfl) ?_
      refine aops_ask 113 (.bool true) 11 #[] (by kernel_rfl) (by kernel_rfl) (by kernel_rfl) (by kernel_rfl) (by kernel_rfl) ?_
      refine aops_go 2 60 (by kernel_rfl) ?_
      refine aops_end (by kernel_rfl) (then_normal ?_)
      refine aw_ret (bodyQ_ret_to (.bool true) H13_ (by kernel_rfl) (by kernel_rfl) ?_)
      rfl
  · skip
    obtain ⟨A1, o1, k1, cells1, e1, ro1, hv1, g1, hA1, hc1⟩ := hN1.form (by omega)
    obtain ⟨hp1, _, hk1⟩ := Value.slice.inj hv1
    subst hp1 hk1
    have hx1 : cells1[o1 + i * 1]? = some (.int .i64 (ls.getD i 0)) := by rw [hc1 i (by omega), List.getD_eq_getElem?_getD, List.getElem?_eq_getElem (by omega : i < ls.length)]; rfl
    have gb1 : H1.get A1 = some ⟨cells1, e1, ro1⟩ := (hup.get _ hA1).trans g1
    obtain ⟨A2, o2, k2, cells2, e2, ro2, hv2, g2, hA2, hc2⟩ := hN2.form (by omega)
    obtain ⟨hp2, _, hk2⟩ := Value.slice.inj hv2
    subst hp2 hk2
    have hx2 : cells2[o2 + i * 1]? = some (.int .u32 (ns.getD i 0)) := by rw [hc2 i (by omega), List.getD_eq_getElem?_getD, List.getElem?_eq_getElem (by omega : i < ns.length)]; rfl
    have gb2 : H1.get A2 = some ⟨cells2, e2, ro2⟩ := (hup.get _ hA2).trans g2
    have hu1 := getD_of (P := fun x => i64B x = true) hls rfl i
    have hu2 := getD_of (P := fun x => u32B x = true) hns rfl i
    have hok := okIn (ls.getD i 0) (ns.getD i 0) hu2
    obtain ⟨eb, heb⟩ : ∃ eb, eb = encB (opOf (ls.getD i 0)) (numOf (opOf (ls.getD i 0)) (ns.getD i 0)) := ⟨_, rfl⟩
    have hebp : 0 < eb.length := by rw [heb]; exact encB_pos hok
    have heb5 : eb.length ≤ 5 := by rw [heb]; have h8 := encB_len hok; have h9 := hok.sz; simp only at h8 h9; omega
    refine aw_code f8bcccacaa_eq ?_
    refine aw_then ?_
    refine aw_code f8bcccacaaa_eq ?_
    refine aw_then ?_
    refine aw_code f8bcccacaaaa_eq ?_
    refine aw_reg ?_
    refine aops_go 5 60 (by kernel_rfl) ?_
    refine aops_see 25 (.bool true) (see_bool (by kernel_rfl) ((decide_eq_true (by omega)) : ((decide (((i : Nat) : Int) < ((ls.length : Nat) : Int)))) = true)) ?_
    refine aops_go 6 60 (by kernel_rfl) ?_
    refine aops_see 31 (.bool true) (see_bool (by kernel_rfl) ((decide_eq_true (by omega)) : ((decide (((i : Nat) : Int) < ((ns.length : Nat) : Int)))) = true)) ?_
    refine aops_go 3 60 (by kernel_rfl) ?_
    refine aops_end (by kernel_rfl) (then_normal ?_)
    refine aw_code f8bcccacaaac_eq ?_
    refine aw_cond (t := true) (see_bool (by kernel_rfl) ((decide_eq_true (by omega)) : ((decide (((i : Nat) : Int) < 20))) = true)) ?_
    refine aw_skip (then_normal ?_)
    refine aw_code f8bcccacaac_eq ?_
    refine aw_then ?_
    refine aw_code f8bcccacaaca_eq ?_
    refine aw_block ?_
    refine aw_code f8bcccacaacaa_eq ?_
    refine aw_then ?_
    refine aw_code f8bcccacaacaaa_eq ?_
    refine aw_draw0w (by kernel_rfl) ?_
    refine aops_go 2 60 (by kernel_rfl) ?_
    refine aops_val 40 (.pointer (some ⟨A1, o1 + i * 1, none⟩)) H1 (by kernel_rfl) (by kernel_rfl) (by kernel_rfl) ((by kernel_rfl : _ = val (bif (i : Nat).blt ls.length then some (.pointer (some ⟨A1, o1 + i * 1, none⟩)) else none) H1).trans (by rw [show (i : Nat).blt ls.length = true from (by rw [blt_dec]; simp only [decide_eq_true_eq]; omega)]; rfl)) ?_
    refine aops_val 41 (.int .i64 (ls.getD i 0)) H1 (by kernel_rfl) (by kernel_rfl) (by kernel_rfl) ((by kernel_rfl : _ = val (aload T20 3 (.pointer (some ⟨A1, o1 + i * 1, none⟩)) H1) H1).trans (val_of ((aload_at gb1).trans (aloadC_cellB (n := 1) (by kernel_rfl) (by kernel_rfl) hx1)))) ?_
    refine aops_go 2 60 (by kernel_rfl) ?_
    refine aops_val 44 (.pointer (some ⟨A2, o2 + i * 1, none⟩)) H1 (by kernel_rfl) (by kernel_rfl) (by kernel_rfl) ((by kernel_rfl : _ = val (bif (i : Nat).blt ns.length then some (.pointer (some ⟨A2, o2 + i * 1, none⟩)) else none) H1).trans (by rw [show (i : Nat).blt ns.length = true from (by rw [blt_dec]; simp only [decide_eq_true_eq]; omega)]; rfl)) ?_
    refine aops_val 45 (.int .u32 (ns.getD i 0)) H1 (by kernel_rfl) (by kernel_rfl) (by kernel_rfl) ((by kernel_rfl : _ = val (aload T20 22 (.pointer (some ⟨A2, o2 + i * 1, none⟩)) H1) H1).trans (val_of ((aload_at gb2).trans (aloadC_cellB (n := 1) (by kernel_rfl) (by kernel_rfl) hx2)))) ?_
    refine aops_ask 46 (.agg #[.int .i64 (opOf (ls.getD i 0)), .int .u32 (numOf (opOf (ls.getD i 0)) (ns.getD i 0))]) 13 #[.int .i64 (ls.getD i 0), .int .u32 (ns.getD i 0)] (by kernel_rfl) (by kernel_rfl) (by kernel_rfl) (by kernel_rfl) (orc13 (ls.getD i 0) (ns.getD i 0) hu1 hu2) ?_
    refine aops_call_to 47 25 #[.agg #[.int .i64 (opOf (ls.getD i 0)), .int .u32 (numOf (opOf (ls.getD i 0)) (ns.getD i 0))]] H1 (by kernel_rfl) (by kernel_rfl) (fun v => (by kernel_rfl)) (by kernel_rfl) (by kernel_rfl) (enc_ok hok.rt) ?_
    rintro _ H14_ ⟨xv, rfl, hgx, uH14_⟩
    have nH14_ := uH14_.n
    rw [show encL (opOf (ls.getD i 0)) (numOf (opOf (ls.getD i 0)) (ns.getD i 0)) = eb.map (Value.int .u8) from (encB_eq hok).trans (by rw [heb])] at hgx
    rw [List.length_map] at hgx
    obtain ⟨B1, rfl, gB1, hB1, hlB1⟩ : ∃ B1, xv = .slice (some ⟨B1, 0, none⟩) eb.length (unk + 1) ∧ H14_.get B1 = some ⟨eb.map (Value.int .u8), 5, false⟩ ∧ B1 < H14_.n ∧ H1.n ≤ B1 := by
      rcases hgx.at_ with ⟨_, h0⟩ | ⟨B1, e9, g9, h8, h9⟩
      · omega
      · exact ⟨B1, e9, g9, h8, h9⟩
    refine aops_go 5 60 (by kernel_rfl) ?_
    refine aops_end (by kernel_rfl) (then_normal ?_)
    refine aw_code f8bcccacaacaac_eq ?_
    refine aw_then ?_
    refine aw_code f8bcccacaacaaca_eq ?_
    refine aw_then ?_
    refine aw_code f8bcccacaacaacaa_eq ?_
    refine aw_reg ?_
    refine aops_go 7 60 (by kernel_rfl) ?_
    refine aops_end (by kernel_rfl) (then_normal ?_)
    refine aw_code f8bcccacaacaacac_eq ?_
    refine aw_cond (t := false) (see_bool (by kernel_rfl) ((beq_false_of_ne (by omega)) : ((((eb.length : Nat) : Int) == 0)) = false)) ?_
    refine aw_skip (then_normal ?_)
    refine aw_code f8bcccacaacaacc_eq ?_
    refine aw_then ?_
    refine aw_code f8bcccacaacaacca_eq ?_
    refine aw_reg ?_
    refine aops_go 2 60 (by kernel_rfl) ?_
    obtain ⟨_, H15_, hapH15_, hgb, uH15_, frH15_, nH15_, rfl⟩ := aappend_gr (T := T20) (st := 27) (xt := 27) (e := 5) (xd := .slice 5) (s0 := 0) (by_ := 0) (z := .int .u8 0) (by kernel_rfl) (by kernel_rfl) rfl (by kernel_rfl) (by kernel_rfl) (by kernel_rfl) (lo := H.n) (hgr.keep (lo' := H.n) (by omega) (fun b hb1 hb2 => by rw [uH14_.get _ (by omega)])) (x := .slice (some ⟨B1, 0, none⟩) eb.length (unk + 1)) (asrc_blk (l := eb.map (Value.int .u8)) gB1 (by rw [List.drop_zero, Nat.mul_one, List.take_of_length_le (by simp)]) (by simp)) (by simp) (by simp [one]) (by omega) (Gr.ne hgr (by omega)) (by omega) (by omega)
    refine aops_val 59 (.slice (some ⟨H14_.n, 0, none⟩) (endAt ls ns i + eb.length) (unk + 1)) H15_ (by kernel_rfl) (by kernel_rfl) (by kernel_rfl) ((by kernel_rfl : _ = val2 (aappend T20 27 27 bv (.slice (some ⟨B1, 0, none⟩) eb.length (unk + 1)) H14_)).trans (by rw [hapH15_]; rfl)) ?_
    refine aops_go 1 60 (by kernel_rfl) ?_
    refine aops_end (by kernel_rfl) (then_normal ?_)
    refine aw_code f8bcccacaacaaccc_eq ?_
    refine aw_reg ?_
    refine aops_go 3 60 (by kernel_rfl) ?_
    obtain ⟨H16_, hH16_⟩ : ∃ x : Heap, x = H15_.push ⟨[Value.int .i64 (((endAt ls ns i + eb.length) : Nat) : Int)], 3, false⟩ := ⟨_, rfl⟩
    have nH16_ : H16_.n = H15_.n + 1 := by rw [hH16_]; rfl
    refine aops_val 63 (.slice (some ⟨H15_.n, 0, none⟩) 1 1) H16_ (by kernel_rfl) (by kernel_rfl) (by kernel_rfl) ((by kernel_rfl : _ = some (Res.val (.slice (some ⟨H15_.n, 0, none⟩) 1 1), H15_.push ⟨[Value.int .i64 (((endAt ls ns i + eb.length) : Nat) : Int)], 3, false⟩)).trans (by rw [← hH16_])) ?_
    have gH16_H15__n : H16_.get (H15_.n) = some ⟨[Value.int .i64 (((endAt ls ns i + eb.length) : Nat) : Int)], 3, false⟩ := by rw [hH16_]; exact (Heap.get_push _ _ _).trans (if_pos rfl)
    have gE4 : H16_.get E = some ⟨endC ls ns i, 3, false⟩ := by rw [hH16_, Heap.get_push, if_neg (by omega), frH15_ E (by omega) (fun B c k h => hbE B c k h), uH14_.get E (by omega)]; exact gE
    obtain ⟨H17_, hapH17_, gE5, nH17_, frH17_⟩ := aappend_en (T := T20) (st := 39) (xt := 39) (e := 3) (xd := .slice 3) (z := .int .i64 0) (c2 := 1) (by kernel_rfl) (by kernel_rfl) rfl (by kernel_rfl) (by kernel_rfl) (by kernel_rfl) gE4 (endC_len ls ns i) hc (by omega) gH16_H15__n rfl (by omega)
    refine aops_val 64 (.slice (some ⟨H16_.n, 0, none⟩) (i + 1 + 1) (unk + 1)) H17_ (by kernel_rfl) (by kernel_rfl) (by kernel_rfl) ((by kernel_rfl : _ = val2 (aappend T20 39 39 (.slice (some ⟨E, 0, none⟩) (i + 1) c) (.slice (some ⟨H15_.n, 0, none⟩) 1 1) H16_)).trans (by rw [hapH17_]; rfl)) ?_
    refine aops_go 1 60 (by kernel_rfl) ?_
    refine aops_end (by kernel_rfl) (blk_normal (then_normal ?_))
    refine aw_code f8bcccacaacc_eq ?_
    refine aw_reg ?_
    refine aops_go 2 60 (by kernel_rfl) ?_
    refine aops_see 36 (.int .i64 ((i + 1 : Nat) : Int)) (see_int (x := (IntKind.i64.wrap (((i : Nat) : Int) + 1))) (by kernel_rfl) (w64 (by omega) (by omega) (by omega))) ?_
    refine aops_go 1 60 (by kernel_rfl) ?_
    obtain ⟨gbo, lbo, lob⟩ := Gr.own hgb
    have hL : joinB (cutL ls ns (i + 1)) = joinB (cutL ls ns i) ++ eb := by rw [cutL_succ, joinB_app, heb]; simp [joinB]
    have hEs : endAt ls ns (i + 1) = endAt ls ns i + eb.length := by rw [endAt_succ, heb]
    have hEl : endAt ls ns i = (joinB (cutL ls ns i)).length := rfl
    refine aops_end (by kernel_rfl) (then_normal ⟨20 - (i + 1), by omega, i + 1, .slice (some ⟨H14_.n, 0, none⟩) (endAt ls ns i + eb.length) (unk + 1), H16_.n, unk + 1, H17_, rfl, by omega, by omega, by omega, ⟨by kernel_rfl, by kernel_rfl, by kernel_rfl, by kernel_rfl, by kernel_rfl, by kernel_rfl, True.intro⟩, by kernel_rfl, ?_, ?_, ?_, by omega, by omega, .inl rfl, ?_⟩)
    · exact hup.trans ⟨by omega, fun b hb => by rw [frH17_ b (by omega) (by omega), hH16_, Heap.get_push, if_neg (by omega), uH15_.get _ (by omega), uH14_.get _ (by omega)]⟩
    · refine ⟨by rw [hL, hEs]; simp; omega, .inr ⟨H14_.n, by rw [hEs], ?_, by omega, by omega⟩⟩
      rw [frH17_ _ (by omega) (by omega), hH16_, Heap.get_push, if_neg (by omega), gbo, hL, List.map_append]
    · rw [gE5, endC_succ, hEs]
    · intro B c k h; obtain ⟨hp, _, _⟩ := Value.slice.inj h; injection hp with hp; injection hp with hp _ _; omega
end Gc
end Go.Proofs.YtpfmmckbfejfnaaDoor
