/- Chapter 2: what is written is read again, with anything behind. -/
import Derived.Test.YtpfmmckbfejfnaaDoorGbh
namespace Go.Proofs.YtpfmmckbfejfnaaDoor
open Go Go.Ev Go.RowKit
set_option linter.unusedVariables false
set_option linter.unusedSimpArgs false
set_option maxRecDepth 100000
namespace Gc
theorem all_u8 (l : List Int) : (l.map (Value.int .u8)).all one = true := by
  rw [List.all_map]; exact List.all_eq_true.2 fun _ _ => rfl
theorem all_ins (L : List In) : (insC L).all one = true := by
  refine List.all_eq_true.2 fun x hx => ?_
  obtain ⟨p, _, hx⟩ := List.mem_flatMap.1 hx
  simp only [inC, List.mem_cons, List.not_mem_nil, or_false] at hx
  rcases hx with rfl | rfl <;> rfl
theorem Ow.ne_blk {H H0 : Heap} {lo : Nat} {e : TypeId} {s len n c2 c3 : Nat} {v : Value} {xs : List Value} {l : List Int} {p p' : Option Addr} (h : Ow H lo e s v len xs) (h2 : Byts H0 (.slice p l.length c2) l) (hl : H0.n ≤ lo) (hp : blk p' = blk p) (B c : Nat) (hv : v = .slice (some ⟨B, 0, none⟩) len c) : blockOf (.slice p' n c3) ≠ some B := by
  have h1 := Ow.ne_byts h h2 hl B c hv
  intro h0
  apply h1
  cases p' with
  | none => simp [blockOf] at h0
  | some a' =>
    cases p with
    | none => simp [blk] at hp
    | some a =>
      simp only [blk, Option.map_some, Option.some.injEq] at hp
      simp only [blockOf, Option.some.injEq] at h0 ⊢
      omega
theorem Gr.fresh {H : Heap} {lo : Nat} {e : TypeId} {s len : Nat} {v : Value} {xs : List Value} (h : Gr H lo e s v len xs) {b : Nat} (hb : H.n ≤ b) (B c k : Nat) (hv : v = .slice (some ⟨B, 0, none⟩) c k) : b ≠ B := by
  rcases h.at_ with ⟨rfl, _⟩ | ⟨B3, h1, _, h3, _⟩
  · cases hv
  · rw [h1] at hv
    obtain ⟨hp, _, _⟩ := Value.slice.inj hv
    injection hp with hp; injection hp with hp _ _
    omega
noncomputable def f6b : Code := Tryd.f6.body.getD .skip
noncomputable def f6ba : Code := cl f6b
noncomputable def f6bao : Array Oper := opsOf f6ba
noncomputable def f6bc : Code := cr f6b
noncomputable def f6bca : Code := cl f6bc
noncomputable def f6bcao : Array Oper := opsOf f6bca
noncomputable def f6bcc : Code := cr f6bc
noncomputable def f6bcca : Code := cl f6bcc
noncomputable def f6bccao : Array Oper := opsOf f6bcca
noncomputable def f6bccc : Code := cr f6bcc
noncomputable def f6bccca : Code := cl f6bccc
noncomputable def f6bcccaa : Code := cl f6bccca
noncomputable def f6bcccaao : Array Oper := opsOf f6bcccaa
noncomputable def f6bcccac : Code := cr f6bccca
noncomputable def f6bcccaca : Code := cl f6bcccac
noncomputable def f6bcccacaa : Code := cl f6bcccaca
noncomputable def f6bcccacaaa : Code := cl f6bcccacaa
noncomputable def f6bcccacaaaa : Code := cl f6bcccacaaa
noncomputable def f6bcccacaaaao : Array Oper := opsOf f6bcccacaaaa
noncomputable def f6bcccacaaac : Code := cr f6bcccacaaa
noncomputable def f6bcccacaac : Code := cr f6bcccacaa
noncomputable def f6bcccacaaca : Code := cl f6bcccacaac
noncomputable def f6bcccacaacaa : Code := cl f6bcccacaaca
noncomputable def f6bcccacaacaaa : Code := cl f6bcccacaacaa
noncomputable def f6bcccacaacaaao : Array Oper := opsOf f6bcccacaacaaa
noncomputable def f6bcccacaacaac : Code := cr f6bcccacaacaa
noncomputable def f6bcccacaacaaca : Code := cl f6bcccacaacaac
noncomputable def f6bcccacaacaacaa : Code := cl f6bcccacaacaaca
noncomputable def f6bcccacaacaacaao : Array Oper := opsOf f6bcccacaacaacaa
noncomputable def f6bcccacaacaacac : Code := cr f6bcccacaacaaca
noncomputable def f6bcccacaacaacaca : Code := cl f6bcccacaacaacac
noncomputable def f6bcccacaacaacacao : Array Oper := opsOf f6bcccacaacaacaca
noncomputable def f6bcccacaacaacc : Code := cr f6bcccacaacaac
noncomputable def f6bcccacaacaacca : Code := cl f6bcccacaacaacc
noncomputable def f6bcccacaacaaccao : Array Oper := opsOf f6bcccacaacaacca
noncomputable def f6bcccacaacaaccc : Code := cr f6bcccacaacaacc
noncomputable def f6bcccacaacaaccca : Code := cl f6bcccacaacaaccc
noncomputable def f6bcccacaacaacccao : Array Oper := opsOf f6bcccacaacaaccca
noncomputable def f6bcccacaacaacccc : Code := cr f6bcccacaacaaccc
noncomputable def f6bcccacaacaacccco : Array Oper := opsOf f6bcccacaacaacccc
noncomputable def f6bcccacaacc : Code := cr f6bcccacaac
noncomputable def f6bcccacaacco : Array Oper := opsOf f6bcccacaacc
noncomputable def f6bcccc : Code := cr f6bccc
noncomputable def f6bcccca : Code := cl f6bcccc
noncomputable def f6bccccao : Array Oper := opsOf f6bcccca
noncomputable def f6bccccc : Code := cr f6bcccc
noncomputable def f6bccccca : Code := cl f6bccccc
noncomputable def f6bcccccaa : Code := cl f6bccccca
noncomputable def f6bcccccaao : Array Oper := opsOf f6bcccccaa
noncomputable def f6bcccccac : Code := cr f6bccccca
noncomputable def f6bcccccaca : Code := cl f6bcccccac
noncomputable def f6bcccccacaa : Code := cl f6bcccccaca
noncomputable def f6bcccccacaao : Array Oper := opsOf f6bcccccacaa
noncomputable def f6bcccccc : Code := cr f6bccccc
noncomputable def f6bcccccca : Code := cl f6bcccccc
noncomputable def f6bccccccao : Array Oper := opsOf f6bcccccca
noncomputable def f6bccccccc : Code := cr f6bcccccc
noncomputable def f6bccccccca : Code := cl f6bccccccc
noncomputable def f6bcccccccaa : Code := cl f6bccccccca
noncomputable def f6bcccccccaao : Array Oper := opsOf f6bcccccccaa
noncomputable def f6bcccccccac : Code := cr f6bccccccca
noncomputable def f6bcccccccaca : Code := cl f6bcccccccac
noncomputable def f6bcccccccacaa : Code := cl f6bcccccccaca
noncomputable def f6bcccccccacaao : Array Oper := opsOf f6bcccccccacaa
noncomputable def f6bcccccccc : Code := cr f6bccccccc
noncomputable def f6bcccccccca : Code := cl f6bcccccccc
noncomputable def f6bccccccccao : Array Oper := opsOf f6bcccccccca
noncomputable def f6bccccccccc : Code := cr f6bcccccccc
noncomputable def f6bccccccccca : Code := cl f6bccccccccc
noncomputable def f6bcccccccccaa : Code := cl f6bccccccccca
noncomputable def f6bcccccccccaao : Array Oper := opsOf f6bcccccccccaa
noncomputable def f6bcccccccccac : Code := cr f6bccccccccca
noncomputable def f6bcccccccccaca : Code := cl f6bcccccccccac
noncomputable def f6bcccccccccacaa : Code := cl f6bcccccccccaca
noncomputable def f6bcccccccccacaaa : Code := cl f6bcccccccccacaa
noncomputable def f6bcccccccccacaaaa : Code := cl f6bcccccccccacaaa
noncomputable def f6bcccccccccacaaaao : Array Oper := opsOf f6bcccccccccacaaaa
noncomputable def f6bcccccccccacaaac : Code := cr f6bcccccccccacaaa
noncomputable def f6bcccccccccacaac : Code := cr f6bcccccccccacaa
noncomputable def f6bcccccccccacaaca : Code := cl f6bcccccccccacaac
noncomputable def f6bcccccccccacaacaa : Code := cl f6bcccccccccacaaca
noncomputable def f6bcccccccccacaacaaa : Code := cl f6bcccccccccacaacaa
noncomputable def f6bcccccccccacaacaaao : Array Oper := opsOf f6bcccccccccacaacaaa
noncomputable def f6bcccccccccacaacaac : Code := cr f6bcccccccccacaacaa
noncomputable def f6bcccccccccacaacaaca : Code := cl f6bcccccccccacaacaac
noncomputable def f6bcccccccccacaacaacaa : Code := cl f6bcccccccccacaacaaca
noncomputable def f6bcccccccccacaacaacaao : Array Oper := opsOf f6bcccccccccacaacaacaa
noncomputable def f6bcccccccccacaacaacac : Code := cr f6bcccccccccacaacaaca
noncomputable def f6bcccccccccacaacaacaca : Code := cl f6bcccccccccacaacaacac
noncomputable def f6bcccccccccacaacaacacaa : Code := cl f6bcccccccccacaacaacaca
noncomputable def f6bcccccccccacaacaacacaao : Array Oper := opsOf f6bcccccccccacaacaacacaa
noncomputable def f6bcccccccccacaacaacc : Code := cr f6bcccccccccacaacaac
noncomputable def f6bcccccccccacaacaacco : Array Oper := opsOf f6bcccccccccacaacaacc
noncomputable def f6bcccccccccacaacc : Code := cr f6bcccccccccacaac
noncomputable def f6bcccccccccacaacco : Array Oper := opsOf f6bcccccccccacaacc
noncomputable def f6bcccccccccc : Code := cr f6bccccccccc
noncomputable def f6bcccccccccca : Code := cl f6bcccccccccc
noncomputable def f6bccccccccccao : Array Oper := opsOf f6bcccccccccca
noncomputable def f6bccccccccccc : Code := cr f6bcccccccccc
noncomputable def f6bccccccccccca : Code := cl f6bccccccccccc
noncomputable def f6bcccccccccccao : Array Oper := opsOf f6bccccccccccca
theorem f6ba_eq : f6ba = .region 0 f6bao false := by kernel_rfl
theorem f6bca_eq : f6bca = .region 1 f6bcao false := by kernel_rfl
theorem f6bcca_eq : f6bcca = .region 2 f6bccao false := by kernel_rfl
theorem f6bcccaa_eq : f6bcccaa = .region 3 f6bcccaao false := by kernel_rfl
theorem f6bcccacaaaa_eq : f6bcccacaaaa = .region 4 f6bcccacaaaao false := by kernel_rfl
theorem f6bcccacaaac_eq : f6bcccacaaac = .cond (cop f6bcccacaaac) .skip (.exit 0) := by kernel_rfl
theorem f6bcccacaaa_eq : f6bcccacaaa = .seq f6bcccacaaaa f6bcccacaaac := by kernel_rfl
theorem f6bcccacaacaaa_eq : f6bcccacaacaaa = .region 6 f6bcccacaacaaao false := by kernel_rfl
theorem f6bcccacaacaacaa_eq : f6bcccacaacaacaa = .region 7 f6bcccacaacaacaao false := by kernel_rfl
theorem f6bcccacaacaacaca_eq : f6bcccacaacaacaca = .region 8 f6bcccacaacaacacao false := by kernel_rfl
theorem f6bcccacaacaacac_eq : f6bcccacaacaacac = .cond (cop f6bcccacaacaacac) f6bcccacaacaacaca .skip := by kernel_rfl
theorem f6bcccacaacaaca_eq : f6bcccacaacaaca = .seq f6bcccacaacaacaa f6bcccacaacaacac := by kernel_rfl
theorem f6bcccacaacaacca_eq : f6bcccacaacaacca = .region 9 f6bcccacaacaaccao false := by kernel_rfl
theorem f6bcccacaacaaccca_eq : f6bcccacaacaaccca = .region 10 f6bcccacaacaacccao false := by kernel_rfl
theorem f6bcccacaacaacccc_eq : f6bcccacaacaacccc = .region 11 f6bcccacaacaacccco false := by kernel_rfl
theorem f6bcccacaacaaccc_eq : f6bcccacaacaaccc = .seq f6bcccacaacaaccca f6bcccacaacaacccc := by kernel_rfl
theorem f6bcccacaacaacc_eq : f6bcccacaacaacc = .seq f6bcccacaacaacca f6bcccacaacaaccc := by kernel_rfl
theorem f6bcccacaacaac_eq : f6bcccacaacaac = .seq f6bcccacaacaaca f6bcccacaacaacc := by kernel_rfl
theorem f6bcccacaacaa_eq : f6bcccacaacaa = .seq f6bcccacaacaaa f6bcccacaacaac := by kernel_rfl
theorem f6bcccacaaca_eq : f6bcccacaaca = .block 1 f6bcccacaacaa := by kernel_rfl
theorem f6bcccacaacc_eq : f6bcccacaacc = .region 5 f6bcccacaacco false := by kernel_rfl
theorem f6bcccacaac_eq : f6bcccacaac = .seq f6bcccacaaca f6bcccacaacc := by kernel_rfl
theorem f6bcccacaa_eq : f6bcccacaa = .seq f6bcccacaaa f6bcccacaac := by kernel_rfl
theorem f6bcccaca_eq : f6bcccaca = .loop f6bcccacaa := by kernel_rfl
theorem f6bcccac_eq : f6bcccac = .block 0 f6bcccaca := by kernel_rfl
theorem f6bccca_eq : f6bccca = .seq f6bcccaa f6bcccac := by kernel_rfl
theorem f6bcccca_eq : f6bcccca = .region 12 f6bccccao false := by kernel_rfl
theorem f6bcccccaa_eq : f6bcccccaa = .region 13 f6bcccccaao false := by kernel_rfl
theorem f6bcccccacaa_eq : f6bcccccacaa = .region 14 f6bcccccacaao false := by kernel_rfl
theorem f6bcccccaca_eq : f6bcccccaca = .seq f6bcccccacaa .ret := by kernel_rfl
theorem f6bcccccac_eq : f6bcccccac = .cond (cop f6bcccccac) f6bcccccaca .skip := by kernel_rfl
theorem f6bccccca_eq : f6bccccca = .seq f6bcccccaa f6bcccccac := by kernel_rfl
theorem f6bcccccca_eq : f6bcccccca = .region 15 f6bccccccao false := by kernel_rfl
theorem f6bcccccccaa_eq : f6bcccccccaa = .region 16 f6bcccccccaao false := by kernel_rfl
theorem f6bcccccccacaa_eq : f6bcccccccacaa = .region 17 f6bcccccccacaao false := by kernel_rfl
theorem f6bcccccccaca_eq : f6bcccccccaca = .seq f6bcccccccacaa .ret := by kernel_rfl
theorem f6bcccccccac_eq : f6bcccccccac = .cond (cop f6bcccccccac) f6bcccccccaca .skip := by kernel_rfl
theorem f6bccccccca_eq : f6bccccccca = .seq f6bcccccccaa f6bcccccccac := by kernel_rfl
theorem f6bcccccccca_eq : f6bcccccccca = .region 18 f6bccccccccao false := by kernel_rfl
theorem f6bcccccccccaa_eq : f6bcccccccccaa = .region 19 f6bcccccccccaao false := by kernel_rfl
theorem f6bcccccccccacaaaa_eq : f6bcccccccccacaaaa = .region 20 f6bcccccccccacaaaao false := by kernel_rfl
theorem f6bcccccccccacaaac_eq : f6bcccccccccacaaac = .cond (cop f6bcccccccccacaaac) .skip (.exit 2) := by kernel_rfl
theorem f6bcccccccccacaaa_eq : f6bcccccccccacaaa = .seq f6bcccccccccacaaaa f6bcccccccccacaaac := by kernel_rfl
theorem f6bcccccccccacaacaaa_eq : f6bcccccccccacaacaaa = .region 22 f6bcccccccccacaacaaao false := by kernel_rfl
theorem f6bcccccccccacaacaacaa_eq : f6bcccccccccacaacaacaa = .region 23 f6bcccccccccacaacaacaao true := by kernel_rfl
theorem f6bcccccccccacaacaacacaa_eq : f6bcccccccccacaacaacacaa = .region 24 f6bcccccccccacaacaacacaao false := by kernel_rfl
theorem f6bcccccccccacaacaacaca_eq : f6bcccccccccacaacaacaca = .seq f6bcccccccccacaacaacacaa .ret := by kernel_rfl
theorem f6bcccccccccacaacaacac_eq : f6bcccccccccacaacaacac = .cond (cop f6bcccccccccacaacaacac) f6bcccccccccacaacaacaca .skip := by kernel_rfl
theorem f6bcccccccccacaacaaca_eq : f6bcccccccccacaacaaca = .seq f6bcccccccccacaacaacaa f6bcccccccccacaacaacac := by kernel_rfl
theorem f6bcccccccccacaacaacc_eq : f6bcccccccccacaacaacc = .region 25 f6bcccccccccacaacaacco false := by kernel_rfl
theorem f6bcccccccccacaacaac_eq : f6bcccccccccacaacaac = .seq f6bcccccccccacaacaaca f6bcccccccccacaacaacc := by kernel_rfl
theorem f6bcccccccccacaacaa_eq : f6bcccccccccacaacaa = .seq f6bcccccccccacaacaaa f6bcccccccccacaacaac := by kernel_rfl
theorem f6bcccccccccacaaca_eq : f6bcccccccccacaaca = .block 3 f6bcccccccccacaacaa := by kernel_rfl
theorem f6bcccccccccacaacc_eq : f6bcccccccccacaacc = .region 21 f6bcccccccccacaacco false := by kernel_rfl
theorem f6bcccccccccacaac_eq : f6bcccccccccacaac = .seq f6bcccccccccacaaca f6bcccccccccacaacc := by kernel_rfl
theorem f6bcccccccccacaa_eq : f6bcccccccccacaa = .seq f6bcccccccccacaaa f6bcccccccccacaac := by kernel_rfl
theorem f6bcccccccccaca_eq : f6bcccccccccaca = .loop f6bcccccccccacaa := by kernel_rfl
theorem f6bcccccccccac_eq : f6bcccccccccac = .block 2 f6bcccccccccaca := by kernel_rfl
theorem f6bccccccccca_eq : f6bccccccccca = .seq f6bcccccccccaa f6bcccccccccac := by kernel_rfl
theorem f6bcccccccccca_eq : f6bcccccccccca = .region 26 f6bccccccccccao false := by kernel_rfl
theorem f6bccccccccccca_eq : f6bccccccccccca = .region 27 f6bcccccccccccao false := by kernel_rfl
theorem f6bccccccccccc_eq : f6bccccccccccc = .seq f6bccccccccccca .ret := by kernel_rfl
theorem f6bcccccccccc_eq : f6bcccccccccc = .seq f6bcccccccccca f6bccccccccccc := by kernel_rfl
theorem f6bccccccccc_eq : f6bccccccccc = .seq f6bccccccccca f6bcccccccccc := by kernel_rfl
theorem f6bcccccccc_eq : f6bcccccccc = .seq f6bcccccccca f6bccccccccc := by kernel_rfl
theorem f6bccccccc_eq : f6bccccccc = .seq f6bccccccca f6bcccccccc := by kernel_rfl
theorem f6bcccccc_eq : f6bcccccc = .seq f6bcccccca f6bccccccc := by kernel_rfl
theorem f6bccccc_eq : f6bccccc = .seq f6bccccca f6bcccccc := by kernel_rfl
theorem f6bcccc_eq : f6bcccc = .seq f6bcccca f6bccccc := by kernel_rfl
theorem f6bccc_eq : f6bccc = .seq f6bccca f6bcccc := by kernel_rfl
theorem f6bcc_eq : f6bcc = .seq f6bcca f6bccc := by kernel_rfl
theorem f6bc_eq : f6bc = .seq f6bca f6bcc := by kernel_rfl
theorem f6b_eq : f6b = .seq f6ba f6bc := by kernel_rfl
theorem f6_body : Tryd.f6.body = some f6b := by kernel_rfl
theorem f6_fn : T20.fn 6 = some Tryd.f6 := by kernel_rfl
set_option maxHeartbeats 1000000 in
theorem back_run {H : Heap} {p1 p2 p3 : Option Addr} {c1 c2 c3 : Nat} {ls ns mo : List Int} (hN1 : Nums H .i64 (.slice p1 ls.length c1) ls) (hN2 : Nums H .u32 (.slice p2 ns.length c2) ns) (hM : Byts H (.slice p3 mo.length c3) mo) (hC3 : CapV p3 mo.length c3) (hls : ∀ x ∈ ls, i64B x = true) (hns : ∀ x ∈ ns, u32B x = true) (hmb : ∀ x ∈ mo, 0 ≤ x ∧ x < 256) : ACall Tryd.prog T20 6 #[(.slice p1 ls.length c1), (.slice p2 ns.length c2), (.slice p3 mo.length c3)] H fun r H' => r = .bool true := by
  refine acall_of' 165 (initTm 0 #[(.slice p1 ls.length c1), (.slice p2 ns.length c2), (.slice p3 mo.length c3)]) rfl f6_fn f6_body rfl rfl ?_
  refine aw_code f6b_eq ?_
  refine aw_then ?_
  refine aw_code f6ba_eq ?_
  refine aw_reg ?_
  refine aops_go 1 60 (by kernel_rfl) ?_
  refine aops_end (by kernel_rfl) (then_normal ?_)
  refine aw_code f6bc_eq ?_
  refine aw_then ?_
  refine aw_code f6bca_eq ?_
  refine aw_reg ?_
  refine aops_go 1 60 (by kernel_rfl) ?_
  refine aops_end (by kernel_rfl) (then_normal ?_)
  refine aw_code f6bcc_eq ?_
  refine aw_then ?_
  refine aw_code f6bcca_eq ?_
  refine aw_reg ?_
  refine aops_go 1 60 (by kernel_rfl) ?_
  refine aops_end (by kernel_rfl) (then_normal ?_)
  refine aw_code f6bccc_eq ?_
  refine aw_then ?_
  refine aw_code f6bccca_eq ?_
  refine aw_then ?_
  refine aw_code f6bcccaa_eq ?_
  refine aw_reg ?_
  refine aops_go 1 60 (by kernel_rfl) ?_
  refine aops_end (by kernel_rfl) (then_normal ?_)
  refine aw_code f6bcccac_eq ?_
  refine aw_block ?_
  refine aw_code f6bcccaca_eq ?_
  refine aw_loop (fun m st => ∃ (i : Nat) (sv : Value) (H1 : Heap), m = 40 - i ∧ i ≤ 40 ∧ i ≤ ls.length ∧ Kn st.tm [(0, (.slice p1 ls.length c1)), (1, (.slice p2 ns.length c2)), (2, (.slice p3 mo.length c3)), (7, sv), (8, .int .i64 ((bkE ls ns i : Nat) : Int)), (9, .int .i64 ((i : Nat) : Int))] ∧ st.H = H1 ∧ Up H.n H H1 ∧ Gr H1 H.n 26 2 sv i (insC (backL ls ns i))) 40 ⟨0, .slice none 0 0, H, rfl, by omega, by omega, ⟨by kernel_rfl, by kernel_rfl, by kernel_rfl, by kernel_rfl, by kernel_rfl, by kernel_rfl, True.intro⟩, by kernel_rfl, Up.refl H, Gr.nil⟩ ?_
  rintro m st ⟨i, sv, H1, hm, hi40, hil, hkn, hH, hup, hgr⟩
  have nH1 := hup.n
  have hea := bkE_le ls ns i
  refine aw_kn' [(0, (.slice p1 ls.length c1)), (1, (.slice p2 ns.length c2)), (2, (.slice p3 mo.length c3)), (7, sv), (8, .int .i64 ((bkE ls ns i : Nat) : Int)), (9, .int .i64 ((i : Nat) : Int))] hkn hH fun tm => ?_
  rcases (by omega : ls.length ≤ i ∨ (i < ls.length ∧ 40 ≤ i) ∨ (i < ls.length ∧ i < 40 ∧ i < ns.length) ∨ (i < ls.length ∧ i < 40 ∧ ns.length ≤ i)) with h1 | ⟨h1, h2⟩ | ⟨h1, h2, h3⟩ | ⟨h1, h2, h3⟩
  · skip
    obtain ⟨L, hL⟩ : ∃ L, L = backL ls ns i := ⟨_, rfl⟩
    have hLl : L.length = i := by rw [hL, backL_len]
    have hLok : ∀ p ∈ L, OkIn p := by rw [hL]; exact backL_ok hns hi40
    obtain ⟨l2, hl2⟩ : ∃ l2, l2 = joinB L := ⟨_, rfl⟩
    have hle2 : bkE ls ns i = l2.length := by rw [hl2, hL]; rfl
    have hb2 : ∀ x ∈ l2, 0 ≤ x ∧ x < 256 := by rw [hl2]; exact joinB_byte hLok
    rw [← hL] at hgr
    obtain ⟨pt6, cap6, rfl⟩ := Gr.form hgr
    refine aw_code f6bcccacaa_eq ?_
    refine aw_then ?_
    refine aw_code f6bcccacaaa_eq ?_
    refine aw_then ?_
    refine aw_code f6bcccacaaaa_eq ?_
    refine aw_reg ?_
    refine aops_go 5 60 (by kernel_rfl) ?_
    refine aops_see 27 (.bool false) (see_bool (by kernel_rfl) ((decide_eq_false (by omega)) : ((decide (((i : Nat) : Int) < ((ls.length : Nat) : Int)))) = false)) ?_
    refine aops_go 3 60 (by kernel_rfl) ?_
    refine aops_end (by kernel_rfl) (then_normal ?_)
    refine aw_code f6bcccacaaac_eq ?_
    refine aw_cond (t := false) (by kernel_rfl) ?_
    refine aw_exit (then_exit (then_exit (blk_hit (then_normal ?_))))
    refine aw_code f6bcccc_eq ?_
    refine aw_then ?_
    refine aw_code f6bcccca_eq ?_
    refine aw_reg ?_
    refine aops_go 1 60 (by kernel_rfl) ?_
    refine aops_call_to 60 21 #[(.slice pt6 i cap6)] H1 (by kernel_rfl) (by kernel_rfl) (fun v => (by kernel_rfl)) (by kernel_rfl) (by kernel_rfl) (join_any (Gr.ins (by rw [hLl]; exact hgr)) (by omega)) ?_
    rintro r3 H1_ ⟨hj1, _, uH1_⟩
    have nH1_ := uH1_.n
    obtain ⟨bv, rfl, hgb⟩ := hj1 (allR_ok hLok)
    rw [joinL_B hLok, List.length_map, ← hl2] at hgb
    obtain ⟨pt, cap, rfl, hB, hC⟩ := Gr.bytsC hb2 hgb
    refine aops_go 5 60 (by kernel_rfl) ?_
    refine aops_end (by kernel_rfl) (then_normal ?_)
    refine aw_code f6bccccc_eq ?_
    refine aw_then ?_
    refine aw_code f6bccccca_eq ?_
    refine aw_then ?_
    refine aw_code f6bcccccaa_eq ?_
    refine aw_reg ?_
    refine aops_go 8 60 (by kernel_rfl) ?_
    refine aops_end (by kernel_rfl) (then_normal ?_)
    refine aw_code f6bcccccac_eq ?_
    refine aw_cond (t := false) (see_bool (by kernel_rfl) ((by simp; omega) : ((((l2.length : Nat) : Int) != (((bkE ls ns i) : Nat) : Int))) = false)) ?_
    refine aw_skip (then_normal ?_)
    refine aw_code f6bcccccc_eq ?_
    refine aw_then ?_
    refine aw_code f6bcccccca_eq ?_
    refine aw_reg ?_
    obtain ⟨H2_, hH2_⟩ : ∃ x : Heap, x = H1_.push ⟨[], 5, false⟩ := ⟨_, rfl⟩
    have nH2_ : H2_.n = H1_.n + 1 := by rw [hH2_]; rfl
    refine aops_val 72 (.slice (some ⟨H1_.n, 0, none⟩) 0 0) H2_ (by kernel_rfl) (by kernel_rfl) (by kernel_rfl) ((by kernel_rfl : _ = some (Res.val (.slice (some ⟨H1_.n, 0, none⟩) 0 0), H1_.push ⟨[], 5, false⟩)).trans (by rw [← hH2_])) ?_
    refine aops_go 1 60 (by kernel_rfl) ?_
    have gH2_H1__n : H2_.get (H1_.n) = some ⟨[], 5, false⟩ := by rw [hH2_]; exact (Heap.get_push _ _ _).trans (if_pos rfl)
    have how0_1 : Ow H2_ (H1_.n) 5 1 (.slice (some ⟨H1_.n, 0, none⟩) 0 0) 0 [] := ⟨rfl, H1_.n, 0, rfl, .inr rfl, gH2_H1__n, by omega, by omega⟩
    obtain ⟨owH3_, H3_, hapH3_, howH3_, uH3_⟩ := aappend_ow (T := T20) (st := 27) (xt := 27) (e := 5) (xd := .slice 5) (s0 := 0) (by_ := 0) (z := .int .u8 0) (by kernel_rfl) (by kernel_rfl) rfl (by kernel_rfl) (by kernel_rfl) (by kernel_rfl) how0_1 (by omega) (asrc_byts (hB.keep (H' := H2_) (by omega) (fun b hb => by rw [hH2_, Heap.get_push, if_neg (by omega)]))) (by simp) (all_u8 _) (Ow.ne_byts how0_1 hB (by omega)) (by first | omega | (simp only [List.length_take, List.length_drop]; omega))
    have nH3_ := uH3_.n
    refine aops_val 74 owH3_ H3_ (by kernel_rfl) (by kernel_rfl) (by kernel_rfl) ((by kernel_rfl : _ = val2 (aappend T20 27 27 (.slice (some ⟨H1_.n, 0, none⟩) 0 0) ((.slice pt l2.length cap)) H2_)).trans (by rw [hapH3_]; rfl)) ?_
    obtain ⟨H4_, hH4_⟩ : ∃ x : Heap, x = H3_.push ⟨[Value.int .u8 255], 5, false⟩ := ⟨_, rfl⟩
    have nH4_ : H4_.n = H3_.n + 1 := by rw [hH4_]; rfl
    refine aops_val 75 (.slice (some ⟨H3_.n, 0, none⟩) 1 1) H4_ (by kernel_rfl) (by kernel_rfl) (by kernel_rfl) ((by kernel_rfl : _ = some (Res.val (.slice (some ⟨H3_.n, 0, none⟩) 1 1), H3_.push ⟨[Value.int .u8 255], 5, false⟩)).trans (by rw [← hH4_])) ?_
    have gH4_H3__n : H4_.get (H3_.n) = some ⟨[Value.int .u8 255], 5, false⟩ := by rw [hH4_]; exact (Heap.get_push _ _ _).trans (if_pos rfl)
    obtain ⟨owH5_, H5_, hapH5_, howH5_, uH5_⟩ := aappend_ow (T := T20) (st := 27) (xt := 27) (e := 5) (xd := .slice 5) (s0 := 0) (by_ := 0) (z := .int .u8 0) (by kernel_rfl) (by kernel_rfl) rfl (by kernel_rfl) (by kernel_rfl) (by kernel_rfl) (howH3_.keep (by omega) (fun b hb1 hb2 => by rw [hH4_, Heap.get_push, if_neg (by omega)])) (by omega) (asrc_blk (l := [Value.int .u8 255]) gH4_H3__n rfl rfl) rfl rfl (Ow.ne howH3_ (by omega)) (by first | omega | (simp only [List.length_take, List.length_drop]; omega))
    have nH5_ := uH5_.n
    refine aops_val 76 owH5_ H5_ (by kernel_rfl) (by kernel_rfl) (by kernel_rfl) ((by kernel_rfl : _ = val2 (aappend T20 27 27 (owH3_) (.slice (some ⟨H3_.n, 0, none⟩) 1 1) H4_)).trans (by rw [hapH5_]; rfl)) ?_
    obtain ⟨l3, hl3⟩ : ∃ l3, l3 = l2 ++ [255] := ⟨_, rfl⟩
    have hb3 : ∀ x ∈ l3, 0 ≤ x ∧ x < 256 := by rw [hl3]; intro x hx; rcases List.mem_append.1 hx with hx | hx; exact hb2 x hx; simp at hx; omega
    have hl3n : l3.length = l2.length + 1 := by rw [hl3]; simp
    obtain ⟨pt4, cap4, hv4, hB4, hC4, _⟩ := Ow.byts (l := l3) (v := owH5_) (len := ((0 + l2.length) + 1)) (by omega) hb3 (by rw [hl3]; simpa using howH5_)
    refine aops_call_to 77 22 #[owH5_] H5_ (by kernel_rfl) (by kernel_rfl) (fun v => (by kernel_rfl)) (by kernel_rfl) (by kernel_rfl) (by rw [hv4]; exact all_any hB4 hC4 hb3 (by omega)) ?_
    rintro _ H6_ ⟨is, e, ov, rfl, hdec, hne, hga, uH6_⟩
    have nH6_ := uH6_.n
    have hd0 := dec_pre L.length hLok [255] (Nat.le_refl _)
    rw [List.take_length, ← hl2, ← hl3] at hd0
    obtain ⟨hi1, hi2⟩ := Dec.max hdec hne hd0 (by rw [hl3, List.drop_left, read255]; simp)
    rw [hi1] at hga
    obtain ⟨pt5, cap5, rfl⟩ := Gr.form hga
    refine aops_go 5 60 (by kernel_rfl) ?_
    refine aops_end (by kernel_rfl) (then_normal ?_)
    refine aw_code f6bccccccc_eq ?_
    refine aw_then ?_
    refine aw_code f6bccccccca_eq ?_
    refine aw_then ?_
    refine aw_code f6bcccccccaa_eq ?_
    refine aw_reg ?_
    refine aops_go 4 60 (by kernel_rfl) ?_
    refine aops_see 83 (.bool false) (see_bool (by kernel_rfl) ((by simp; omega) : ((((e : Nat) : Int) != (((bkE ls ns i) : Nat) : Int))) = false)) ?_
    refine aops_go 6 60 (by kernel_rfl) ?_
    refine aops_end (by kernel_rfl) (then_normal ?_)
    refine aw_code f6bcccccccac_eq ?_
    refine aw_cond (t := false) (see_bool (by kernel_rfl) ((by simp; omega) : ((((L.length : Nat) : Int) != ((i : Nat) : Int))) = false)) ?_
    refine aw_skip (then_normal ?_)
    refine aw_code f6bcccccccc_eq ?_
    refine aw_then ?_
    refine aw_code f6bcccccccca_eq ?_
    refine aw_reg ?_
    refine aops_go 1 60 (by kernel_rfl) ?_
    refine aops_end (by kernel_rfl) (then_normal ?_)
    refine aw_code f6bccccccccc_eq ?_
    refine aw_then ?_
    refine aw_code f6bccccccccca_eq ?_
    refine aw_then ?_
    refine aw_code f6bcccccccccaa_eq ?_
    refine aw_reg ?_
    refine aops_go 1 60 (by kernel_rfl) ?_
    refine aops_end (by kernel_rfl) (then_normal ?_)
    refine aw_code f6bcccccccccac_eq ?_
    refine aw_block ?_
    refine aw_code f6bcccccccccaca_eq ?_
    refine aw_loop (fun m st => ∃ (j : Nat) (H1b : Heap), m = i - j ∧ j ≤ i ∧ Kn st.tm [(2, (.slice p3 mo.length c3)), (7, (.slice pt6 i cap6)), (8, .int .i64 ((bkE ls ns i : Nat) : Int)), (12, (.slice pt l2.length cap)), (14, (.slice pt5 L.length cap5)), (16, .int .i64 ((bkE ls ns j : Nat) : Int)), (17, .int .i64 ((j : Nat) : Int))] ∧ st.H = H1b ∧ Up H6_.n H6_ H1b) i ⟨0, H6_, rfl, by omega, ⟨by kernel_rfl, by kernel_rfl, by kernel_rfl, by kernel_rfl, by kernel_rfl, by kernel_rfl, by kernel_rfl, True.intro⟩, by kernel_rfl, Up.refl _⟩ ?_
    rintro m st ⟨j, H1b, hm2, hj, hkn2, hH2, hup2⟩
    have nH1b := hup2.n
    refine aw_kn' [(2, (.slice p3 mo.length c3)), (7, (.slice pt6 i cap6)), (8, .int .i64 ((bkE ls ns i : Nat) : Int)), (12, (.slice pt l2.length cap)), (14, (.slice pt5 L.length cap5)), (16, .int .i64 ((bkE ls ns j : Nat) : Int)), (17, .int .i64 ((j : Nat) : Int))] hkn2 hH2 fun tm => ?_
    have hBj : Byts H1b (.slice pt l2.length cap) l2 := (hB.keep (H' := H6_) (by omega) (fun b hb => by rw [uH6_.get _ (by omega), uH5_.get _ (by omega), hH4_, Heap.get_push, if_neg (by omega), uH3_.get _ (by omega), hH2_, Heap.get_push, if_neg (by omega)])).keep hup2.n hup2.get
    have hN3j : Byts H1b (.slice p3 mo.length c3) mo := (hM.keep (H' := H6_) (by omega) (fun b hb => by rw [uH6_.get _ (by omega), uH5_.get _ (by omega), hH4_, Heap.get_push, if_neg (by omega), uH3_.get _ (by omega), hH2_, Heap.get_push, if_neg (by omega), uH1_.get _ (by omega), hup.get _ (by omega)])).keep hup2.n hup2.get
    rcases (by omega : j < i ∨ j = i) with h5 | h5
    · skip
      obtain ⟨B7, hvB7, gB7, lB7⟩ : ∃ B, Value.slice pt6 i cap6 = .slice (some ⟨B, 0, none⟩) i (unk + 2) ∧ H1.get B = some ⟨insC L, 26, false⟩ ∧ B < H1.n := by
        rcases hgr.at_ with ⟨_, h0⟩ | ⟨B, e9, g9, h8, _⟩
        · omega
        · exact ⟨B, e9, g9, h8⟩
      obtain ⟨hpB7, _, hkB7⟩ := Value.slice.inj hvB7
      subst hpB7 hkB7
      have ggB7 : H1b.get B7 = some ⟨insC L, 26, false⟩ := by rw [hup2.get _ (by omega), uH6_.get _ (by omega), uH5_.get _ (by omega), hH4_, Heap.get_push, if_neg (by omega), uH3_.get _ (by omega), hH2_, Heap.get_push, if_neg (by omega), uH1_.get _ (by omega)]; exact gB7
      obtain ⟨B8, hvB8, gB8, lB8⟩ : ∃ B, Value.slice pt5 L.length cap5 = .slice (some ⟨B, 0, none⟩) L.length (unk + 2) ∧ H6_.get B = some ⟨insC L, 26, false⟩ ∧ B < H6_.n := by
        rcases hga.at_ with ⟨_, h0⟩ | ⟨B, e9, g9, h8, _⟩
        · omega
        · exact ⟨B, e9, g9, h8⟩
      obtain ⟨hpB8, _, hkB8⟩ := Value.slice.inj hvB8
      subst hpB8 hkB8
      have ggB8 : H1b.get B8 = some ⟨insC L, 26, false⟩ := by rw [hup2.get _ (by omega)]; exact gB8
      have hjL : j < L.length := by omega
      obtain ⟨⟨oj, nj⟩, hLj⟩ : ∃ q, q = L[j] := ⟨_, rfl⟩
      have hL1 : L[j].1 = oj := by rw [← hLj]
      have hL2 : L[j].2 = nj := by rw [← hLj]
      obtain ⟨kk, hkk⟩ : ∃ kk, kk = (encB oj nj).length := ⟨_, rfl⟩
      have hkk0 : 0 < kk := by rw [hkk, ← hL1, ← hL2]; exact encB_pos (hLok _ (List.getElem_mem _))
      have hbj : bkE ls ns j = (joinB (L.take j)).length := by rw [hL, backL_take ls ns hj]; rfl
      obtain ⟨hb1_, hb2_⟩ := bk_len hjL
      rw [hL1, hL2, ← hkk, ← hbj] at hb1_ hb2_
      rw [← hl2] at hb1_
      have hbj2 : bkE ls ns (j + 1) = bkE ls ns j + kk := by rw [← hb2_, hL, backL_take ls ns (by omega)]; rfl
      have hrd : ∀ rest, readL (l2.drop (bkE ls ns j) ++ rest) = (oj, nj, (kk : Int), 0) := fun rest => by rw [hl2, hbj, bk_read hLok hjL, hL1, hL2, hkk]
      refine aw_code f6bcccccccccacaa_eq ?_
      refine aw_then ?_
      refine aw_code f6bcccccccccacaaa_eq ?_
      refine aw_then ?_
      refine aw_code f6bcccccccccacaaaa_eq ?_
      refine aw_reg ?_
      refine aops_go 4 60 (by kernel_rfl) ?_
      refine aops_end (by kernel_rfl) (then_normal ?_)
      refine aw_code f6bcccccccccacaaac_eq ?_
      refine aw_cond (t := true) (see_bool (by kernel_rfl) ((decide_eq_true (by omega)) : ((decide (((j : Nat) : Int) < ((i : Nat) : Int)))) = true)) ?_
      refine aw_skip (then_normal ?_)
      refine aw_code f6bcccccccccacaac_eq ?_
      refine aw_then ?_
      refine aw_code f6bcccccccccacaaca_eq ?_
      refine aw_block ?_
      refine aw_code f6bcccccccccacaacaa_eq ?_
      refine aw_then ?_
      refine aw_code f6bcccccccccacaacaaa_eq ?_
      refine aw_reg ?_
      obtain ⟨H7_, hH7_⟩ : ∃ x : Heap, x = H1b.push ⟨[], 5, false⟩ := ⟨_, rfl⟩
      have nH7_ : H7_.n = H1b.n + 1 := by rw [hH7_]; rfl
      refine aops_val 97 (.slice (some ⟨H1b.n, 0, none⟩) 0 0) H7_ (by kernel_rfl) (by kernel_rfl) (by kernel_rfl) ((by kernel_rfl : _ = some (Res.val (.slice (some ⟨H1b.n, 0, none⟩) 0 0), H1b.push ⟨[], 5, false⟩)).trans (by rw [← hH7_])) ?_
      refine aops_go 2 60 (by kernel_rfl) ?_
      obtain ⟨pt1_, cap1_, hs1_, hB1_, hC1_, hP1_⟩ := aslice_byts (T := T20) (t := 27) (e := 5) (by kernel_rfl) (by kernel_rfl) (hBj.keep (H' := H7_) (by omega) (fun b hb => by rw [hH7_, Heap.get_push, if_neg (by omega)])) hC (bkE ls ns j) l2.length (vlo := (some (.int .i64 (Int.ofNat (bkE ls ns j))))) (vhi := none) (.inr rfl) (.inl ⟨rfl, rfl⟩) (by omega) (by omega)
      rw [List.take_length] at hB1_
      refine aops_val 100 (.slice pt1_ (l2.length - (bkE ls ns j)) cap1_) H7_ (by kernel_rfl) (by kernel_rfl) (by kernel_rfl) (ha_sl (H := H7_) (t := 27) (x := .tmp 98) (lo := (some (.tmp 99))) (hi := none) (mx := none) (u := (.slice pt l2.length cap)) (l := (some (.int .i64 (Int.ofNat (bkE ls ns j))))) (h := none) (m := none) (by kernel_rfl) (by kernel_rfl) (by kernel_rfl) (by kernel_rfl) (by kernel_rfl) (by kernel_rfl) hs1_ (by kernel_rfl)) ?_
      have gH7_H1b_n : H7_.get (H1b.n) = some ⟨[], 5, false⟩ := by rw [hH7_]; exact (Heap.get_push _ _ _).trans (if_pos rfl)
      have how0_2 : Ow H7_ (H1b.n) 5 1 (.slice (some ⟨H1b.n, 0, none⟩) 0 0) 0 [] := ⟨rfl, H1b.n, 0, rfl, .inr rfl, gH7_H1b_n, by omega, by omega⟩
      obtain ⟨owH8_, H8_, hapH8_, howH8_, uH8_⟩ := aappend_ow (T := T20) (st := 27) (xt := 27) (e := 5) (xd := .slice 5) (s0 := 0) (by_ := 0) (z := .int .u8 0) (by kernel_rfl) (by kernel_rfl) rfl (by kernel_rfl) (by kernel_rfl) (by kernel_rfl) how0_2 (by omega) (asrc_byts hB1_) (by simp) (all_u8 _) (Ow.ne_blk how0_2 hBj (by omega) hP1_) (by first | omega | (simp only [List.length_take, List.length_drop]; omega))
      have nH8_ := uH8_.n
      refine aops_val 101 owH8_ H8_ (by kernel_rfl) (by kernel_rfl) (by kernel_rfl) ((by kernel_rfl : _ = val2 (aappend T20 27 27 (.slice (some ⟨H1b.n, 0, none⟩) 0 0) ((.slice pt1_ (l2.length - (bkE ls ns j)) cap1_)) H7_)).trans (by rw [hapH8_]; rfl)) ?_
      refine aops_go 1 60 (by kernel_rfl) ?_
      obtain ⟨mo9, hmo9⟩ : ∃ l, l = mo.take 9 := ⟨_, rfl⟩
      refine aops_call_to 103 24 #[(.slice p3 mo.length c3), .int .i64 ((9 : Nat) : Int)] H8_ (by kernel_rfl) (by kernel_rfl) (fun v => (by kernel_rfl)) (by kernel_rfl) (by kernel_rfl) (cut_any (hN3j.keep (H' := H8_) (by omega) (fun b hb => by rw [uH8_.get _ (by omega), hH7_, Heap.get_push, if_neg (by omega)])) hC3) ?_
      rintro r0 _ ⟨rfl, pt0, cap0, hr0, hB0, hC0, hP0⟩
      rw [← hmo9] at hr0 hB0 hC0
      subst hr0
      have hb9 : ∀ x ∈ mo9, 0 ≤ x ∧ x < 256 := fun x hx => hmb x (by rw [hmo9] at hx; exact List.mem_of_mem_take hx)
      have hl9 : mo9.length ≤ 9 := by rw [hmo9]; simp; omega
      obtain ⟨owH9_, H9_, hapH9_, howH9_, uH9_⟩ := aappend_ow (T := T20) (st := 27) (xt := 27) (e := 5) (xd := .slice 5) (s0 := 0) (by_ := 0) (z := .int .u8 0) (by kernel_rfl) (by kernel_rfl) rfl (by kernel_rfl) (by kernel_rfl) (by kernel_rfl) howH8_ (by omega) (asrc_byts hB0) (by simp) (all_u8 _) (Ow.ne_blk howH8_ hN3j (by omega) hP0) (by first | omega | (simp only [List.length_take, List.length_drop]; omega))
      have nH9_ := uH9_.n
      refine aops_val 104 owH9_ H9_ (by kernel_rfl) (by kernel_rfl) (by kernel_rfl) ((by kernel_rfl : _ = val2 (aappend T20 27 27 (owH8_) ((.slice pt0 mo9.length cap0)) H8_)).trans (by rw [hapH9_]; rfl)) ?_
      obtain ⟨l4, hl4⟩ : ∃ l4, l4 = l2.drop (bkE ls ns j) ++ mo9 := ⟨_, rfl⟩
      have hb4 : ∀ x ∈ l4, 0 ≤ x ∧ x < 256 := by rw [hl4]; intro x hx; rcases List.mem_append.1 hx with hx | hx; exact hb2 x (List.mem_of_mem_drop hx); exact hb9 x hx
      have hl4n : l4.length ≤ 300 := by rw [hl4]; simp; omega
      obtain ⟨pt7, cap7, hv7, hB7, hC7, _⟩ := Ow.byts (l := l4) (v := owH9_) (len := ((0 + (l2.length - (bkE ls ns j))) + mo9.length)) (by omega) hb4 (by rw [hl4]; simpa using howH9_)
      have hdc := dec_to (a := oj) (N := nj) (s := (kk : Int)) (e := 0) hB7 (by rw [hl4]; exact hrd mo9)
      rw [← hv7] at hdc
      refine aops_call_to 105 23 #[owH9_] H9_ (by kernel_rfl) (by kernel_rfl) (fun v => (by kernel_rfl)) (by kernel_rfl) (by kernel_rfl) hdc ?_
      rintro _ H10_ ⟨rfl, uH10_⟩
      have nH10_ := uH10_.n
      refine aops_go 4 60 (by kernel_rfl) ?_
      obtain ⟨H11_, hH11_⟩ : ∃ x : Heap, x = H10_.push ⟨[Value.int .i64 0, .int .u32 0], 26, false⟩ := ⟨_, rfl⟩
      have nH11_ : H11_.n = H10_.n + 1 := by rw [hH11_]; rfl
      refine aops_val 18 (.pointer (some ⟨H10_.n, 0, none⟩)) H11_ (by kernel_rfl) (by kernel_rfl) (by kernel_rfl) ((by kernel_rfl : _ = some (Res.val (.pointer (some ⟨H10_.n, 0, none⟩)), H10_.push ⟨[Value.int .i64 0, .int .u32 0], 26, false⟩)).trans (by rw [← hH11_])) ?_
      have gH11_H10__n : H11_.get (H10_.n) = some ⟨[Value.int .i64 0, .int .u32 0], 26, false⟩ := by rw [hH11_]; exact (Heap.get_push _ _ _).trans (if_pos rfl)
      obtain ⟨H12_, hH12_⟩ : ∃ x : Heap, x = H11_.put (H10_.n) ⟨[Value.int .i64 oj, .int .u32 nj], 26, false⟩ := ⟨_, rfl⟩
      have nH12_ : H12_.n = H11_.n := by rw [hH12_]; rfl
      refine aops_skip H12_ (by kernel_rfl) (by kernel_rfl) (by kernel_rfl) ((by kernel_rfl : _ = skp (astore T20 26 (.pointer (some ⟨H10_.n, 0, none⟩)) (.agg #[.int .i64 oj, .int .u32 nj]) H11_)).trans (by rw [astore_to gH11_H10__n (by kernel_rfl), ← hH12_]; rfl)) ?_
      refine aops_go 2 60 (by kernel_rfl) ?_
      refine aops_end (by kernel_rfl) (then_normal ?_)
      refine aw_code f6bcccccccccacaacaac_eq ?_
      refine aw_then ?_
      refine aw_code f6bcccccccccacaacaaca_eq ?_
      refine aw_then ?_
      refine aw_code f6bcccccccccacaacaacaa_eq ?_
      refine aw_draw0w (by kernel_rfl) ?_
      refine aops_go 3 60 (by kernel_rfl) ?_
      have gH12_H10__n : H12_.get (H10_.n) = some ⟨[Value.int .i64 oj, .int .u32 nj], 26, false⟩ := by rw [hH12_]; exact (Heap.get_put _ _ _ _).trans (if_pos rfl)
      refine aops_val 112 (.agg #[.int .i64 oj, .int .u32 nj]) H12_ (by kernel_rfl) (by kernel_rfl) (by kernel_rfl) ((by kernel_rfl : _ = val (aload T20 26 (.pointer (some ⟨H10_.n, 0, none⟩)) H12_) H12_).trans (val_of ((aload_at gH12_H10__n).trans (by kernel_rfl)))) ?_
      refine aops_go 2 60 (by kernel_rfl) ?_
      refine aops_val 115 (.pointer (some ⟨B7, 0 + j * 2, none⟩)) H12_ (by kernel_rfl) (by kernel_rfl) (by kernel_rfl) ((by kernel_rfl : _ = val (bif (j : Nat).blt i then some (.pointer (some ⟨B7, 0 + j * 2, none⟩)) else none) H12_).trans (by rw [show (j : Nat).blt i = true from (by rw [blt_dec]; simp only [decide_eq_true_eq]; omega)]; rfl)) ?_
      have gH12_B7 : H12_.get (B7) = some ⟨(insC L), 26, false⟩ := by rw [hH12_, Heap.get_put, if_neg (by omega)]; rw [hH11_, Heap.get_push, if_neg (by omega)]; rw [uH10_.get _ (by omega)]; rw [uH9_.get _ (by omega)]; rw [uH8_.get _ (by omega)]; rw [hH7_, Heap.get_push, if_neg (by omega)]; exact ggB7
      refine aops_val 116 (.agg #[.int .i64 oj, .int .u32 nj]) H12_ (by kernel_rfl) (by kernel_rfl) (by kernel_rfl) ((by kernel_rfl : _ = val (aload T20 26 (.pointer (some ⟨B7, 0 + j * 2, none⟩)) H12_) H12_).trans (val_of ((aload_at gH12_B7).trans (aloadC_rowB (n := 2) (l := inC (oj, nj)) (by kernel_rfl) (by kernel_rfl) rfl (by rw [hLj]; exact insC_row L j hjL))))) ?_
      refine aops_go 3 60 (by kernel_rfl) ?_
      refine aops_see 119 (.bool false) (see_bool (by kernel_rfl) ((by simp) : ((!(((oj : Int) == oj) && (((nj : Int) == nj) && true)))) = false)) ?_
      refine aops_go 2 60 (by kernel_rfl) ?_
      refine aops_val 122 (.pointer (some ⟨B8, 0 + j * 2, none⟩)) H12_ (by kernel_rfl) (by kernel_rfl) (by kernel_rfl) ((by kernel_rfl : _ = val (bif (j : Nat).blt L.length then some (.pointer (some ⟨B8, 0 + j * 2, none⟩)) else none) H12_).trans (by rw [show (j : Nat).blt L.length = true from (by rw [blt_dec]; simp only [decide_eq_true_eq]; omega)]; rfl)) ?_
      have gH12_B8 : H12_.get (B8) = some ⟨(insC L), 26, false⟩ := by rw [hH12_, Heap.get_put, if_neg (by omega)]; rw [hH11_, Heap.get_push, if_neg (by omega)]; rw [uH10_.get _ (by omega)]; rw [uH9_.get _ (by omega)]; rw [uH8_.get _ (by omega)]; rw [hH7_, Heap.get_push, if_neg (by omega)]; exact ggB8
      refine aops_val 123 (.agg #[.int .i64 oj, .int .u32 nj]) H12_ (by kernel_rfl) (by kernel_rfl) (by kernel_rfl) ((by kernel_rfl : _ = val (aload T20 26 (.pointer (some ⟨B8, 0 + j * 2, none⟩)) H12_) H12_).trans (val_of ((aload_at gH12_B8).trans (aloadC_rowB (n := 2) (l := inC (oj, nj)) (by kernel_rfl) (by kernel_rfl) rfl (by rw [hLj]; exact insC_row L j hjL))))) ?_
      refine aops_go 2 60 (by kernel_rfl) ?_
      refine aops_val 126 (.pointer (some ⟨B7, 0 + j * 2, none⟩)) H12_ (by kernel_rfl) (by kernel_rfl) (by kernel_rfl) ((by kernel_rfl : _ = val (bif (j : Nat).blt i then some (.pointer (some ⟨B7, 0 + j * 2, none⟩)) else none) H12_).trans (by rw [show (j : Nat).blt i = true from (by rw [blt_dec]; simp only [decide_eq_true_eq]; omega)]; rfl)) ?_
      refine aops_val 127 (.agg #[.int .i64 oj, .int .u32 nj]) H12_ (by kernel_rfl) (by kernel_rfl) (by kernel_rfl) ((by kernel_rfl : _ = val (aload T20 26 (.pointer (some ⟨B7, 0 + j * 2, none⟩)) H12_) H12_).trans (val_of ((aload_at gH12_B7).trans (aloadC_rowB (n := 2) (l := inC (oj, nj)) (by kernel_rfl) (by kernel_rfl) rfl (by rw [hLj]; exact insC_row L j hjL))))) ?_
      refine aops_go 3 60 (by kernel_rfl) ?_
      refine aops_see 130 (.bool false) (see_bool (by kernel_rfl) ((by simp) : ((!(((oj : Int) == oj) && (((nj : Int) == nj) && true)))) = false)) ?_
      refine aops_go 4 60 (by kernel_rfl) ?_
      refine aops_see 134 (.bool false) (see_bool (by kernel_rfl) ((decide_eq_false (by omega)) : ((decide (((kk : Nat) : Int) < 1))) = false)) ?_
      refine aops_go 3 60 (by kernel_rfl) ?_
      refine aops_see 137 (.int .i64 (((bkE ls ns j) + kk : Nat) : Int)) (see_int (x := (IntKind.i64.wrap ((((bkE ls ns j) : Nat) : Int) + ((kk : Nat) : Int)))) (by kernel_rfl) (w64 (by omega) (by omega) (by omega))) ?_
      refine aops_go 4 60 (by kernel_rfl) ?_
      refine aops_end (by kernel_rfl) (then_normal ?_)
      refine aw_code f6bcccccccccacaacaacac_eq ?_
      refine aw_cond (t := false) (see_bool (by kernel_rfl) ((decide_eq_false (by omega)) : ((decide ((((bkE ls ns j) + kk : Nat) : Int) > ((l2.length : Nat) : Int)))) = false)) ?_
      refine aw_skip (then_normal ?_)
      refine aw_code f6bcccccccccacaacaacc_eq ?_
      refine aw_reg ?_
      refine aops_go 3 60 (by kernel_rfl) ?_
      refine aops_see 144 (.int .i64 (((bkE ls ns j) + kk : Nat) : Int)) (see_int (x := (IntKind.i64.wrap ((((bkE ls ns j) : Nat) : Int) + ((kk : Nat) : Int)))) (by kernel_rfl) (w64 (by omega) (by omega) (by omega))) ?_
      refine aops_go 1 60 (by kernel_rfl) ?_
      refine aops_end (by kernel_rfl) (blk_normal (then_normal ?_))
      refine aw_code f6bcccccccccacaacc_eq ?_
      refine aw_reg ?_
      refine aops_go 2 60 (by kernel_rfl) ?_
      refine aops_see 95 (.int .i64 ((j + 1 : Nat) : Int)) (see_int (x := (IntKind.i64.wrap (((j : Nat) : Int) + 1))) (by kernel_rfl) (w64 (by omega) (by omega) (by omega))) ?_
      refine aops_go 1 60 (by kernel_rfl) ?_
      refine aops_end (by kernel_rfl) (then_normal ⟨i - (j + 1), by omega, j + 1, H12_, rfl, by omega, ⟨by kernel_rfl, by kernel_rfl, by kernel_rfl, by kernel_rfl, by kernel_rfl, (by rw [hbj2]; kernel_rfl), by kernel_rfl, True.intro⟩, by kernel_rfl, hup2.trans ⟨by omega, fun b hb => by rw [hH12_, Heap.get_put, if_neg (by omega), hH11_, Heap.get_push, if_neg (by omega), uH10_.get _ (by omega), uH9_.get _ (by omega), uH8_.get _ (by omega), hH7_, Heap.get_push, if_neg (by omega)]⟩⟩)
    · skip
      have hgr2 : Gr H1b H.n 26 2 (.slice pt6 i cap6) i (insC L) := hgr.keep (lo' := H.n) (by omega) (fun b hb1 hb2 => by rw [hup2.get _ (by omega), uH6_.get _ (by omega), uH5_.get _ (by omega), hH4_, Heap.get_push, if_neg (by omega), uH3_.get _ (by omega), hH2_, Heap.get_push, if_neg (by omega), uH1_.get _ (by omega)])
      refine aw_code f6bcccccccccacaa_eq ?_
      refine aw_then ?_
      refine aw_code f6bcccccccccacaaa_eq ?_
      refine aw_then ?_
      refine aw_code f6bcccccccccacaaaa_eq ?_
      refine aw_reg ?_
      refine aops_go 4 60 (by kernel_rfl) ?_
      refine aops_end (by kernel_rfl) (then_normal ?_)
      refine aw_code f6bcccccccccacaaac_eq ?_
      refine aw_cond (t := false) (see_bool (by kernel_rfl) ((decide_eq_false (by omega)) : ((decide (((j : Nat) : Int) < ((i : Nat) : Int)))) = false)) ?_
      refine aw_exit (then_exit (then_exit (blk_hit (then_normal ?_))))
      refine aw_code f6bcccccccccc_eq ?_
      refine aw_then ?_
      refine aw_code f6bcccccccccca_eq ?_
      refine aw_reg ?_
      obtain ⟨H13_, hH13_⟩ : ∃ x : Heap, x = H1b.push ⟨[], 26, false⟩ := ⟨_, rfl⟩
      have nH13_ : H13_.n = H1b.n + 1 := by rw [hH13_]; rfl
      refine aops_val 146 (.slice (some ⟨H1b.n, 0, none⟩) 0 0) H13_ (by kernel_rfl) (by kernel_rfl) (by kernel_rfl) ((by kernel_rfl : _ = some (Res.val (.slice (some ⟨H1b.n, 0, none⟩) 0 0), H1b.push ⟨[], 26, false⟩)).trans (by rw [← hH13_])) ?_
      refine aops_go 1 60 (by kernel_rfl) ?_
      have gH13_H1b_n : H13_.get (H1b.n) = some ⟨[], 26, false⟩ := by rw [hH13_]; exact (Heap.get_push _ _ _).trans (if_pos rfl)
      have how0_3 : Ow H13_ (H1b.n) 26 2 (.slice (some ⟨H1b.n, 0, none⟩) 0 0) 0 [] := ⟨rfl, H1b.n, 0, rfl, .inr rfl, gH13_H1b_n, by omega, by omega⟩
      obtain ⟨owH14_, H14_, hapH14_, howH14_, uH14_⟩ := aappend_ow (T := T20) (st := 34) (xt := 34) (e := 26) (xd := .slice 26) (s0 := 1) (by_ := 15) (z := .agg #[.int .i64 0, .int .u32 0]) (by kernel_rfl) (by kernel_rfl) rfl (by kernel_rfl) (by kernel_rfl) (by kernel_rfl) how0_3 (by omega) (asrc_gr (hgr2.keep (lo' := H.n) (by omega) (fun b hb1 hb2 => by rw [hH13_, Heap.get_push, if_neg (by omega)]))) (by rw [insC_len]; omega) (all_ins _) (Ow.ne_gr how0_3 hgr2 (by omega)) (by first | omega | (simp only [List.length_take, List.length_drop]; omega))
      have nH14_ := uH14_.n
      refine aops_val 148 owH14_ H14_ (by kernel_rfl) (by kernel_rfl) (by kernel_rfl) ((by kernel_rfl : _ = val2 (aappend T20 34 34 (.slice (some ⟨H1b.n, 0, none⟩) 0 0) ((.slice pt6 i cap6)) H13_)).trans (by rw [hapH14_]; rfl)) ?_
      refine aops_go 1 60 (by kernel_rfl) ?_
      obtain ⟨H15_, hH15_⟩ : ∃ x : Heap, x = H14_.push ⟨[Value.int .i64 9, .int .u32 0], 26, false⟩ := ⟨_, rfl⟩
      have nH15_ : H15_.n = H14_.n + 1 := by rw [hH15_]; rfl
      refine aops_val 150 (.slice (some ⟨H14_.n, 0, none⟩) 1 1) H15_ (by kernel_rfl) (by kernel_rfl) (by kernel_rfl) ((by kernel_rfl : _ = some (Res.val (.slice (some ⟨H14_.n, 0, none⟩) 1 1), H14_.push ⟨[Value.int .i64 9, .int .u32 0], 26, false⟩)).trans (by rw [← hH15_])) ?_
      have gH15_H14__n : H15_.get (H14_.n) = some ⟨[Value.int .i64 9, .int .u32 0], 26, false⟩ := by rw [hH15_]; exact (Heap.get_push _ _ _).trans (if_pos rfl)
      obtain ⟨owH16_, H16_, hapH16_, howH16_, uH16_⟩ := aappend_ow (T := T20) (st := 34) (xt := 34) (e := 26) (xd := .slice 26) (s0 := 1) (by_ := 15) (z := .agg #[.int .i64 0, .int .u32 0]) (by kernel_rfl) (by kernel_rfl) rfl (by kernel_rfl) (by kernel_rfl) (by kernel_rfl) (howH14_.keep (by omega) (fun b hb1 hb2 => by rw [hH15_, Heap.get_push, if_neg (by omega)])) (by omega) (asrc_blk (l := [Value.int .i64 9, .int .u32 0]) gH15_H14__n rfl rfl) rfl rfl (Ow.ne howH14_ (by omega)) (by first | omega | (simp only [List.length_take, List.length_drop]; omega))
      have nH16_ := uH16_.n
      refine aops_val 151 owH16_ H16_ (by kernel_rfl) (by kernel_rfl) (by kernel_rfl) ((by kernel_rfl : _ = val2 (aappend T20 34 34 (owH14_) (.slice (some ⟨H14_.n, 0, none⟩) 1 1) H15_)).trans (by rw [hapH16_]; rfl)) ?_
      have hins : Ins H16_ owH16_ (L ++ [(9, 0)]) := Ow.ins (len := ((0 + i) + 1)) (by rw [insC_snoc]; exact howH16_)
      refine aops_call_to 152 21 #[owH16_] H16_ (by kernel_rfl) (by kernel_rfl) (fun v => (by kernel_rfl)) (by kernel_rfl) (by kernel_rfl) (join_any hins (by simp; omega)) ?_
      rintro r3 H17_ ⟨_, hj2, uH17_⟩
      have nH17_ := uH17_.n
      obtain rfl := hj2 (by simp [allR, right9])
      refine aops_go 5 60 (by kernel_rfl) ?_
      refine aops_end (by kernel_rfl) (then_normal ?_)
      refine aw_code f6bccccccccccc_eq ?_
      refine aw_then ?_
      refine aw_code f6bccccccccccca_eq ?_
      refine aw_reg ?_
      refine aops_go 4 60 (by kernel_rfl) ?_
      refine aops_see 158 (.bool true) (see_bool (by kernel_rfl) ((by rw [h5]; simp) : (((((bkE ls ns j) : Nat) : Int) == (((bkE ls ns i) : Nat) : Int))) = true)) ?_
      refine aops_go 4 60 (by kernel_rfl) ?_
      refine aops_ask 163 (.bool true) 11 #[] (by kernel_rfl) (by kernel_rfl) (by kernel_rfl) (by kernel_rfl) (by kernel_rfl) ?_
      refine aops_go 2 60 (by kernel_rfl) ?_
      refine aops_end (by kernel_rfl) (then_normal ?_)
      refine aw_ret (bodyQ_ret_to (.bool true) H17_ (by kernel_rfl) (by kernel_rfl) ?_)
      rfl
  · skip
    obtain ⟨L, hL⟩ : ∃ L, L = backL ls ns i := ⟨_, rfl⟩
    have hLl : L.length = i := by rw [hL, backL_len]
    have hLok : ∀ p ∈ L, OkIn p := by rw [hL]; exact backL_ok hns hi40
    obtain ⟨l2, hl2⟩ : ∃ l2, l2 = joinB L := ⟨_, rfl⟩
    have hle2 : bkE ls ns i = l2.length := by rw [hl2, hL]; rfl
    have hb2 : ∀ x ∈ l2, 0 ≤ x ∧ x < 256 := by rw [hl2]; exact joinB_byte hLok
    rw [← hL] at hgr
    obtain ⟨pt6, cap6, rfl⟩ := Gr.form hgr
    refine aw_code f6bcccacaa_eq ?_
    refine aw_then ?_
    refine aw_code f6bcccacaaa_eq ?_
    refine aw_then ?_
    refine aw_code f6bcccacaaaa_eq ?_
    refine aw_reg ?_
    refine aops_go 5 60 (by kernel_rfl) ?_
    refine aops_see 27 (.bool true) (see_bool (by kernel_rfl) ((decide_eq_true (by omega)) : ((decide (((i : Nat) : Int) < ((ls.length : Nat) : Int)))) = true)) ?_
    refine aops_go 3 60 (by kernel_rfl) ?_
    refine aops_end (by kernel_rfl) (then_normal ?_)
    refine aw_code f6bcccacaaac_eq ?_
    refine aw_cond (t := false) (see_bool (by kernel_rfl) ((decide_eq_false (by omega)) : ((decide (((i : Nat) : Int) < 40))) = false)) ?_
    refine aw_exit (then_exit (then_exit (blk_hit (then_normal ?_))))
    refine aw_code f6bcccc_eq ?_
    refine aw_then ?_
    refine aw_code f6bcccca_eq ?_
    refine aw_reg ?_
    refine aops_go 1 60 (by kernel_rfl) ?_
    refine aops_call_to 60 21 #[(.slice pt6 i cap6)] H1 (by kernel_rfl) (by kernel_rfl) (fun v => (by kernel_rfl)) (by kernel_rfl) (by kernel_rfl) (join_any (Gr.ins (by rw [hLl]; exact hgr)) (by omega)) ?_
    rintro r3 H18_ ⟨hj1, _, uH18_⟩
    have nH18_ := uH18_.n
    obtain ⟨bv, rfl, hgb⟩ := hj1 (allR_ok hLok)
    rw [joinL_B hLok, List.length_map, ← hl2] at hgb
    obtain ⟨pt, cap, rfl, hB, hC⟩ := Gr.bytsC hb2 hgb
    refine aops_go 5 60 (by kernel_rfl) ?_
    refine aops_end (by kernel_rfl) (then_normal ?_)
    refine aw_code f6bccccc_eq ?_
    refine aw_then ?_
    refine aw_code f6bccccca_eq ?_
    refine aw_then ?_
    refine aw_code f6bcccccaa_eq ?_
    refine aw_reg ?_
    refine aops_go 8 60 (by kernel_rfl) ?_
    refine aops_end (by kernel_rfl) (then_normal ?_)
    refine aw_code f6bcccccac_eq ?_
    refine aw_cond (t := false) (see_bool (by kernel_rfl) ((by simp; omega) : ((((l2.length : Nat) : Int) != (((bkE ls ns i) : Nat) : Int))) = false)) ?_
    refine aw_skip (then_normal ?_)
    refine aw_code f6bcccccc_eq ?_
    refine aw_then ?_
    refine aw_code f6bcccccca_eq ?_
    refine aw_reg ?_
    obtain ⟨H19_, hH19_⟩ : ∃ x : Heap, x = H18_.push ⟨[], 5, false⟩ := ⟨_, rfl⟩
    have nH19_ : H19_.n = H18_.n + 1 := by rw [hH19_]; rfl
    refine aops_val 72 (.slice (some ⟨H18_.n, 0, none⟩) 0 0) H19_ (by kernel_rfl) (by kernel_rfl) (by kernel_rfl) ((by kernel_rfl : _ = some (Res.val (.slice (some ⟨H18_.n, 0, none⟩) 0 0), H18_.push ⟨[], 5, false⟩)).trans (by rw [← hH19_])) ?_
    refine aops_go 1 60 (by kernel_rfl) ?_
    have gH19_H18__n : H19_.get (H18_.n) = some ⟨[], 5, false⟩ := by rw [hH19_]; exact (Heap.get_push _ _ _).trans (if_pos rfl)
    have how0_4 : Ow H19_ (H18_.n) 5 1 (.slice (some ⟨H18_.n, 0, none⟩) 0 0) 0 [] := ⟨rfl, H18_.n, 0, rfl, .inr rfl, gH19_H18__n, by omega, by omega⟩
    obtain ⟨owH20_, H20_, hapH20_, howH20_, uH20_⟩ := aappend_ow (T := T20) (st := 27) (xt := 27) (e := 5) (xd := .slice 5) (s0 := 0) (by_ := 0) (z := .int .u8 0) (by kernel_rfl) (by kernel_rfl) rfl (by kernel_rfl) (by kernel_rfl) (by kernel_rfl) how0_4 (by omega) (asrc_byts (hB.keep (H' := H19_) (by omega) (fun b hb => by rw [hH19_, Heap.get_push, if_neg (by omega)]))) (by simp) (all_u8 _) (Ow.ne_byts how0_4 hB (by omega)) (by first | omega | (simp only [List.length_take, List.length_drop]; omega))
    have nH20_ := uH20_.n
    refine aops_val 74 owH20_ H20_ (by kernel_rfl) (by kernel_rfl) (by kernel_rfl) ((by kernel_rfl : _ = val2 (aappend T20 27 27 (.slice (some ⟨H18_.n, 0, none⟩) 0 0) ((.slice pt l2.length cap)) H19_)).trans (by rw [hapH20_]; rfl)) ?_
    obtain ⟨H21_, hH21_⟩ : ∃ x : Heap, x = H20_.push ⟨[Value.int .u8 255], 5, false⟩ := ⟨_, rfl⟩
    have nH21_ : H21_.n = H20_.n + 1 := by rw [hH21_]; rfl
    refine aops_val 75 (.slice (some ⟨H20_.n, 0, none⟩) 1 1) H21_ (by kernel_rfl) (by kernel_rfl) (by kernel_rfl) ((by kernel_rfl : _ = some (Res.val (.slice (some ⟨H20_.n, 0, none⟩) 1 1), H20_.push ⟨[Value.int .u8 255], 5, false⟩)).trans (by rw [← hH21_])) ?_
    have gH21_H20__n : H21_.get (H20_.n) = some ⟨[Value.int .u8 255], 5, false⟩ := by rw [hH21_]; exact (Heap.get_push _ _ _).trans (if_pos rfl)
    obtain ⟨owH22_, H22_, hapH22_, howH22_, uH22_⟩ := aappend_ow (T := T20) (st := 27) (xt := 27) (e := 5) (xd := .slice 5) (s0 := 0) (by_ := 0) (z := .int .u8 0) (by kernel_rfl) (by kernel_rfl) rfl (by kernel_rfl) (by kernel_rfl) (by kernel_rfl) (howH20_.keep (by omega) (fun b hb1 hb2 => by rw [hH21_, Heap.get_push, if_neg (by omega)])) (by omega) (asrc_blk (l := [Value.int .u8 255]) gH21_H20__n rfl rfl) rfl rfl (Ow.ne howH20_ (by omega)) (by first | omega | (simp only [List.length_take, List.length_drop]; omega))
    have nH22_ := uH22_.n
    refine aops_val 76 owH22_ H22_ (by kernel_rfl) (by kernel_rfl) (by kernel_rfl) ((by kernel_rfl : _ = val2 (aappend T20 27 27 (owH20_) (.slice (some ⟨H20_.n, 0, none⟩) 1 1) H21_)).trans (by rw [hapH22_]; rfl)) ?_
    obtain ⟨l3, hl3⟩ : ∃ l3, l3 = l2 ++ [255] := ⟨_, rfl⟩
    have hb3 : ∀ x ∈ l3, 0 ≤ x ∧ x < 256 := by rw [hl3]; intro x hx; rcases List.mem_append.1 hx with hx | hx; exact hb2 x hx; simp at hx; omega
    have hl3n : l3.length = l2.length + 1 := by rw [hl3]; simp
    obtain ⟨pt4, cap4, hv4, hB4, hC4, _⟩ := Ow.byts (l := l3) (v := owH22_) (len := ((0 + l2.length) + 1)) (by omega) hb3 (by rw [hl3]; simpa using howH22_)
    refine aops_call_to 77 22 #[owH22_] H22_ (by kernel_rfl) (by kernel_rfl) (fun v => (by kernel_rfl)) (by kernel_rfl) (by kernel_rfl) (by rw [hv4]; exact all_any hB4 hC4 hb3 (by omega)) ?_
    rintro _ H23_ ⟨is, e, ov, rfl, hdec, hne, hga, uH23_⟩
    have nH23_ := uH23_.n
    have hd0 := dec_pre L.length hLok [255] (Nat.le_refl _)
    rw [List.take_length, ← hl2, ← hl3] at hd0
    obtain ⟨hi1, hi2⟩ := Dec.max hdec hne hd0 (by rw [hl3, List.drop_left, read255]; simp)
    rw [hi1] at hga
    obtain ⟨pt5, cap5, rfl⟩ := Gr.form hga
    refine aops_go 5 60 (by kernel_rfl) ?_
    refine aops_end (by kernel_rfl) (then_normal ?_)
    refine aw_code f6bccccccc_eq ?_
    refine aw_then ?_
    refine aw_code f6bccccccca_eq ?_
    refine aw_then ?_
    refine aw_code f6bcccccccaa_eq ?_
    refine aw_reg ?_
    refine aops_go 4 60 (by kernel_rfl) ?_
    refine aops_see 83 (.bool false) (see_bool (by kernel_rfl) ((by simp; omega) : ((((e : Nat) : Int) != (((bkE ls ns i) : Nat) : Int))) = false)) ?_
    refine aops_go 6 60 (by kernel_rfl) ?_
    refine aops_end (by kernel_rfl) (then_normal ?_)
    refine aw_code f6bcccccccac_eq ?_
    refine aw_cond (t := false) (see_bool (by kernel_rfl) ((by simp; omega) : ((((L.length : Nat) : Int) != ((i : Nat) : Int))) = false)) ?_
    refine aw_skip (then_normal ?_)
    refine aw_code f6bcccccccc_eq ?_
    refine aw_then ?_
    refine aw_code f6bcccccccca_eq ?_
    refine aw_reg ?_
    refine aops_go 1 60 (by kernel_rfl) ?_
    refine aops_end (by kernel_rfl) (then_normal ?_)
    refine aw_code f6bccccccccc_eq ?_
    refine aw_then ?_
    refine aw_code f6bccccccccca_eq ?_
    refine aw_then ?_
    refine aw_code f6bcccccccccaa_eq ?_
    refine aw_reg ?_
    refine aops_go 1 60 (by kernel_rfl) ?_
    refine aops_end (by kernel_rfl) (then_normal ?_)
    refine aw_code f6bcccccccccac_eq ?_
    refine aw_block ?_
    refine aw_code f6bcccccccccaca_eq ?_
    refine aw_loop (fun m st => ∃ (j : Nat) (H1b : Heap), m = i - j ∧ j ≤ i ∧ Kn st.tm [(2, (.slice p3 mo.length c3)), (7, (.slice pt6 i cap6)), (8, .int .i64 ((bkE ls ns i : Nat) : Int)), (12, (.slice pt l2.length cap)), (14, (.slice pt5 L.length cap5)), (16, .int .i64 ((bkE ls ns j : Nat) : Int)), (17, .int .i64 ((j : Nat) : Int))] ∧ st.H = H1b ∧ Up H23_.n H23_ H1b) i ⟨0, H23_, rfl, by omega, ⟨by kernel_rfl, by kernel_rfl, by kernel_rfl, by kernel_rfl, by kernel_rfl, by kernel_rfl, by kernel_rfl, True.intro⟩, by kernel_rfl, Up.refl _⟩ ?_
    rintro m st ⟨j, H1b, hm2, hj, hkn2, hH2, hup2⟩
    have nH1b := hup2.n
    refine aw_kn' [(2, (.slice p3 mo.length c3)), (7, (.slice pt6 i cap6)), (8, .int .i64 ((bkE ls ns i : Nat) : Int)), (12, (.slice pt l2.length cap)), (14, (.slice pt5 L.length cap5)), (16, .int .i64 ((bkE ls ns j : Nat) : Int)), (17, .int .i64 ((j : Nat) : Int))] hkn2 hH2 fun tm => ?_
    have hBj : Byts H1b (.slice pt l2.length cap) l2 := (hB.keep (H' := H23_) (by omega) (fun b hb => by rw [uH23_.get _ (by omega), uH22_.get _ (by omega), hH21_, Heap.get_push, if_neg (by omega), uH20_.get _ (by omega), hH19_, Heap.get_push, if_neg (by omega)])).keep hup2.n hup2.get
    have hN3j : Byts H1b (.slice p3 mo.length c3) mo := (hM.keep (H' := H23_) (by omega) (fun b hb => by rw [uH23_.get _ (by omega), uH22_.get _ (by omega), hH21_, Heap.get_push, if_neg (by omega), uH20_.get _ (by omega), hH19_, Heap.get_push, if_neg (by omega), uH18_.get _ (by omega), hup.get _ (by omega)])).keep hup2.n hup2.get
    rcases (by omega : j < i ∨ j = i) with h5 | h5
    · skip
      obtain ⟨B7, hvB7, gB7, lB7⟩ : ∃ B, Value.slice pt6 i cap6 = .slice (some ⟨B, 0, none⟩) i (unk + 2) ∧ H1.get B = some ⟨insC L, 26, false⟩ ∧ B < H1.n := by
        rcases hgr.at_ with ⟨_, h0⟩ | ⟨B, e9, g9, h8, _⟩
        · omega
        · exact ⟨B, e9, g9, h8⟩
      obtain ⟨hpB7, _, hkB7⟩ := Value.slice.inj hvB7
      subst hpB7 hkB7
      have ggB7 : H1b.get B7 = some ⟨insC L, 26, false⟩ := by rw [hup2.get _ (by omega), uH23_.get _ (by omega), uH22_.get _ (by omega), hH21_, Heap.get_push, if_neg (by omega), uH20_.get _ (by omega), hH19_, Heap.get_push, if_neg (by omega), uH18_.get _ (by omega)]; exact gB7
      obtain ⟨B8, hvB8, gB8, lB8⟩ : ∃ B, Value.slice pt5 L.length cap5 = .slice (some ⟨B, 0, none⟩) L.length (unk + 2) ∧ H23_.get B = some ⟨insC L, 26, false⟩ ∧ B < H23_.n := by
        rcases hga.at_ with ⟨_, h0⟩ | ⟨B, e9, g9, h8, _⟩
        · omega
        · exact ⟨B, e9, g9, h8⟩
      obtain ⟨hpB8, _, hkB8⟩ := Value.slice.inj hvB8
      subst hpB8 hkB8
      have ggB8 : H1b.get B8 = some ⟨insC L, 26, false⟩ := by rw [hup2.get _ (by omega)]; exact gB8
      have hjL : j < L.length := by omega
      obtain ⟨⟨oj, nj⟩, hLj⟩ : ∃ q, q = L[j] := ⟨_, rfl⟩
      have hL1 : L[j].1 = oj := by rw [← hLj]
      have hL2 : L[j].2 = nj := by rw [← hLj]
      obtain ⟨kk, hkk⟩ : ∃ kk, kk = (encB oj nj).length := ⟨_, rfl⟩
      have hkk0 : 0 < kk := by rw [hkk, ← hL1, ← hL2]; exact encB_pos (hLok _ (List.getElem_mem _))
      have hbj : bkE ls ns j = (joinB (L.take j)).length := by rw [hL, backL_take ls ns hj]; rfl
      obtain ⟨hb1_, hb2_⟩ := bk_len hjL
      rw [hL1, hL2, ← hkk, ← hbj] at hb1_ hb2_
      rw [← hl2] at hb1_
      have hbj2 : bkE ls ns (j + 1) = bkE ls ns j + kk := by rw [← hb2_, hL, backL_take ls ns (by omega)]; rfl
      have hrd : ∀ rest, readL (l2.drop (bkE ls ns j) ++ rest) = (oj, nj, (kk : Int), 0) := fun rest => by rw [hl2, hbj, bk_read hLok hjL, hL1, hL2, hkk]
      refine aw_code f6bcccccccccacaa_eq ?_
      refine aw_then ?_
      refine aw_code f6bcccccccccacaaa_eq ?_
      refine aw_then ?_
      refine aw_code f6bcccccccccacaaaa_eq ?_
      refine aw_reg ?_
      refine aops_go 4 60 (by kernel_rfl) ?_
      refine aops_end (by kernel_rfl) (then_normal ?_)
      refine aw_code f6bcccccccccacaaac_eq ?_
      refine aw_cond (t := true) (see_bool (by kernel_rfl) ((decide_eq_true (by omega)) : ((decide (((j : Nat) : Int) < ((i : Nat) : Int)))) = true)) ?_
      refine aw_skip (then_normal ?_)
      refine aw_code f6bcccccccccacaac_eq ?_
      refine aw_then ?_
      refine aw_code f6bcccccccccacaaca_eq ?_
      refine aw_block ?_
      refine aw_code f6bcccccccccacaacaa_eq ?_
      refine aw_then ?_
      refine aw_code f6bcccccccccacaacaaa_eq ?_
      refine aw_reg ?_
      obtain ⟨H24_, hH24_⟩ : ∃ x : Heap, x = H1b.push ⟨[], 5, false⟩ := ⟨_, rfl⟩
      have nH24_ : H24_.n = H1b.n + 1 := by rw [hH24_]; rfl
      refine aops_val 97 (.slice (some ⟨H1b.n, 0, none⟩) 0 0) H24_ (by kernel_rfl) (by kernel_rfl) (by kernel_rfl) ((by kernel_rfl : _ = some (Res.val (.slice (some ⟨H1b.n, 0, none⟩) 0 0), H1b.push ⟨[], 5, false⟩)).trans (by rw [← hH24_])) ?_
      refine aops_go 2 60 (by kernel_rfl) ?_
      obtain ⟨pt2_, cap2_, hs2_, hB2_, hC2_, hP2_⟩ := aslice_byts (T := T20) (t := 27) (e := 5) (by kernel_rfl) (by kernel_rfl) (hBj.keep (H' := H24_) (by omega) (fun b hb => by rw [hH24_, Heap.get_push, if_neg (by omega)])) hC (bkE ls ns j) l2.length (vlo := (some (.int .i64 (Int.ofNat (bkE ls ns j))))) (vhi := none) (.inr rfl) (.inl ⟨rfl, rfl⟩) (by omega) (by omega)
      rw [List.take_length] at hB2_
      refine aops_val 100 (.slice pt2_ (l2.length - (bkE ls ns j)) cap2_) H24_ (by kernel_rfl) (by kernel_rfl) (by kernel_rfl) (ha_sl (H := H24_) (t := 27) (x := .tmp 98) (lo := (some (.tmp 99))) (hi := none) (mx := none) (u := (.slice pt l2.length cap)) (l := (some (.int .i64 (Int.ofNat (bkE ls ns j))))) (h := none) (m := none) (by kernel_rfl) (by kernel_rfl) (by kernel_rfl) (by kernel_rfl) (by kernel_rfl) (by kernel_rfl) hs2_ (by kernel_rfl)) ?_
      have gH24_H1b_n : H24_.get (H1b.n) = some ⟨[], 5, false⟩ := by rw [hH24_]; exact (Heap.get_push _ _ _).trans (if_pos rfl)
      have how0_5 : Ow H24_ (H1b.n) 5 1 (.slice (some ⟨H1b.n, 0, none⟩) 0 0) 0 [] := ⟨rfl, H1b.n, 0, rfl, .inr rfl, gH24_H1b_n, by omega, by omega⟩
      obtain ⟨owH25_, H25_, hapH25_, howH25_, uH25_⟩ := aappend_ow (T := T20) (st := 27) (xt := 27) (e := 5) (xd := .slice 5) (s0 := 0) (by_ := 0) (z := .int .u8 0) (by kernel_rfl) (by kernel_rfl) rfl (by kernel_rfl) (by kernel_rfl) (by kernel_rfl) how0_5 (by omega) (asrc_byts hB2_) (by simp) (all_u8 _) (Ow.ne_blk how0_5 hBj (by omega) hP2_) (by first | omega | (simp only [List.length_take, List.length_drop]; omega))
      have nH25_ := uH25_.n
      refine aops_val 101 owH25_ H25_ (by kernel_rfl) (by kernel_rfl) (by kernel_rfl) ((by kernel_rfl : _ = val2 (aappend T20 27 27 (.slice (some ⟨H1b.n, 0, none⟩) 0 0) ((.slice pt2_ (l2.length - (bkE ls ns j)) cap2_)) H24_)).trans (by rw [hapH25_]; rfl)) ?_
      refine aops_go 1 60 (by kernel_rfl) ?_
      obtain ⟨mo9, hmo9⟩ : ∃ l, l = mo.take 9 := ⟨_, rfl⟩
      refine aops_call_to 103 24 #[(.slice p3 mo.length c3), .int .i64 ((9 : Nat) : Int)] H25_ (by kernel_rfl) (by kernel_rfl) (fun v => (by kernel_rfl)) (by kernel_rfl) (by kernel_rfl) (cut_any (hN3j.keep (H' := H25_) (by omega) (fun b hb => by rw [uH25_.get _ (by omega), hH24_, Heap.get_push, if_neg (by omega)])) hC3) ?_
      rintro r0 _ ⟨rfl, pt0, cap0, hr0, hB0, hC0, hP0⟩
      rw [← hmo9] at hr0 hB0 hC0
      subst hr0
      have hb9 : ∀ x ∈ mo9, 0 ≤ x ∧ x < 256 := fun x hx => hmb x (by rw [hmo9] at hx; exact List.mem_of_mem_take hx)
      have hl9 : mo9.length ≤ 9 := by rw [hmo9]; simp; omega
      obtain ⟨owH26_, H26_, hapH26_, howH26_, uH26_⟩ := aappend_ow (T := T20) (st := 27) (xt := 27) (e := 5) (xd := .slice 5) (s0 := 0) (by_ := 0) (z := .int .u8 0) (by kernel_rfl) (by kernel_rfl) rfl (by kernel_rfl) (by kernel_rfl) (by kernel_rfl) howH25_ (by omega) (asrc_byts hB0) (by simp) (all_u8 _) (Ow.ne_blk howH25_ hN3j (by omega) hP0) (by first | omega | (simp only [List.length_take, List.length_drop]; omega))
      have nH26_ := uH26_.n
      refine aops_val 104 owH26_ H26_ (by kernel_rfl) (by kernel_rfl) (by kernel_rfl) ((by kernel_rfl : _ = val2 (aappend T20 27 27 (owH25_) ((.slice pt0 mo9.length cap0)) H25_)).trans (by rw [hapH26_]; rfl)) ?_
      obtain ⟨l4, hl4⟩ : ∃ l4, l4 = l2.drop (bkE ls ns j) ++ mo9 := ⟨_, rfl⟩
      have hb4 : ∀ x ∈ l4, 0 ≤ x ∧ x < 256 := by rw [hl4]; intro x hx; rcases List.mem_append.1 hx with hx | hx; exact hb2 x (List.mem_of_mem_drop hx); exact hb9 x hx
      have hl4n : l4.length ≤ 300 := by rw [hl4]; simp; omega
      obtain ⟨pt7, cap7, hv7, hB7, hC7, _⟩ := Ow.byts (l := l4) (v := owH26_) (len := ((0 + (l2.length - (bkE ls ns j))) + mo9.length)) (by omega) hb4 (by rw [hl4]; simpa using howH26_)
      have hdc := dec_to (a := oj) (N := nj) (s := (kk : Int)) (e := 0) hB7 (by rw [hl4]; exact hrd mo9)
      rw [← hv7] at hdc
      refine aops_call_to 105 23 #[owH26_] H26_ (by kernel_rfl) (by kernel_rfl) (fun v => (by kernel_rfl)) (by kernel_rfl) (by kernel_rfl) hdc ?_
      rintro _ H27_ ⟨rfl, uH27_⟩
      have nH27_ := uH27_.n
      refine aops_go 4 60 (by kernel_rfl) ?_
      obtain ⟨H28_, hH28_⟩ : ∃ x : Heap, x = H27_.push ⟨[Value.int .i64 0, .int .u32 0], 26, false⟩ := ⟨_, rfl⟩
      have nH28_ : H28_.n = H27_.n + 1 := by rw [hH28_]; rfl
      refine aops_val 18 (.pointer (some ⟨H27_.n, 0, none⟩)) H28_ (by kernel_rfl) (by kernel_rfl) (by kernel_rfl) ((by kernel_rfl : _ = some (Res.val (.pointer (some ⟨H27_.n, 0, none⟩)), H27_.push ⟨[Value.int .i64 0, .int .u32 0], 26, false⟩)).trans (by rw [← hH28_])) ?_
      have gH28_H27__n : H28_.get (H27_.n) = some ⟨[Value.int .i64 0, .int .u32 0], 26, false⟩ := by rw [hH28_]; exact (Heap.get_push _ _ _).trans (if_pos rfl)
      obtain ⟨H29_, hH29_⟩ : ∃ x : Heap, x = H28_.put (H27_.n) ⟨[Value.int .i64 oj, .int .u32 nj], 26, false⟩ := ⟨_, rfl⟩
      have nH29_ : H29_.n = H28_.n := by rw [hH29_]; rfl
      refine aops_skip H29_ (by kernel_rfl) (by kernel_rfl) (by kernel_rfl) ((by kernel_rfl : _ = skp (astore T20 26 (.pointer (some ⟨H27_.n, 0, none⟩)) (.agg #[.int .i64 oj, .int .u32 nj]) H28_)).trans (by rw [astore_to gH28_H27__n (by kernel_rfl), ← hH29_]; rfl)) ?_
      refine aops_go 2 60 (by kernel_rfl) ?_
      refine aops_end (by kernel_rfl) (then_normal ?_)
      refine aw_code f6bcccccccccacaacaac_eq ?_
      refine aw_then ?_
      refine aw_code f6bcccccccccacaacaaca_eq ?_
      refine aw_then ?_
      refine aw_code f6bcccccccccacaacaacaa_eq ?_
      refine aw_draw0w (by kernel_rfl) ?_
      refine aops_go 3 60 (by kernel_rfl) ?_
      have gH29_H27__n : H29_.get (H27_.n) = some ⟨[Value.int .i64 oj, .int .u32 nj], 26, false⟩ := by rw [hH29_]; exact (Heap.get_put _ _ _ _).trans (if_pos rfl)
      refine aops_val 112 (.agg #[.int .i64 oj, .int .u32 nj]) H29_ (by kernel_rfl) (by kernel_rfl) (by kernel_rfl) ((by kernel_rfl : _ = val (aload T20 26 (.pointer (some ⟨H27_.n, 0, none⟩)) H29_) H29_).trans (val_of ((aload_at gH29_H27__n).trans (by kernel_rfl)))) ?_
      refine aops_go 2 60 (by kernel_rfl) ?_
      refine aops_val 115 (.pointer (some ⟨B7, 0 + j * 2, none⟩)) H29_ (by kernel_rfl) (by kernel_rfl) (by kernel_rfl) ((by kernel_rfl : _ = val (bif (j : Nat).blt i then some (.pointer (some ⟨B7, 0 + j * 2, none⟩)) else none) H29_).trans (by rw [show (j : Nat).blt i = true from (by rw [blt_dec]; simp only [decide_eq_true_eq]; omega)]; rfl)) ?_
      have gH29_B7 : H29_.get (B7) = some ⟨(insC L), 26, false⟩ := by rw [hH29_, Heap.get_put, if_neg (by omega)]; rw [hH28_, Heap.get_push, if_neg (by omega)]; rw [uH27_.get _ (by omega)]; rw [uH26_.get _ (by omega)]; rw [uH25_.get _ (by omega)]; rw [hH24_, Heap.get_push, if_neg (by omega)]; exact ggB7
      refine aops_val 116 (.agg #[.int .i64 oj, .int .u32 nj]) H29_ (by kernel_rfl) (by kernel_rfl) (by kernel_rfl) ((by kernel_rfl : _ = val (aload T20 26 (.pointer (some ⟨B7, 0 + j * 2, none⟩)) H29_) H29_).trans (val_of ((aload_at gH29_B7).trans (aloadC_rowB (n := 2) (l := inC (oj, nj)) (by kernel_rfl) (by kernel_rfl) rfl (by rw [hLj]; exact insC_row L j hjL))))) ?_
      refine aops_go 3 60 (by kernel_rfl) ?_
      refine aops_see 119 (.bool false) (see_bool (by kernel_rfl) ((by simp) : ((!(((oj : Int) == oj) && (((nj : Int) == nj) && true)))) = false)) ?_
      refine aops_go 2 60 (by kernel_rfl) ?_
      refine aops_val 122 (.pointer (some ⟨B8, 0 + j * 2, none⟩)) H29_ (by kernel_rfl) (by kernel_rfl) (by kernel_rfl) ((by kernel_rfl : _ = val (bif (j : Nat).blt L.length then some (.pointer (some ⟨B8, 0 + j * 2, none⟩)) else none) H29_).trans (by rw [show (j : Nat).blt L.length = true from (by rw [blt_dec]; simp only [decide_eq_true_eq]; omega)]; rfl)) ?_
      have gH29_B8 : H29_.get (B8) = some ⟨(insC L), 26, false⟩ := by rw [hH29_, Heap.get_put, if_neg (by omega)]; rw [hH28_, Heap.get_push, if_neg (by omega)]; rw [uH27_.get _ (by omega)]; rw [uH26_.get _ (by omega)]; rw [uH25_.get _ (by omega)]; rw [hH24_, Heap.get_push, if_neg (by omega)]; exact ggB8
      refine aops_val 123 (.agg #[.int .i64 oj, .int .u32 nj]) H29_ (by kernel_rfl) (by kernel_rfl) (by kernel_rfl) ((by kernel_rfl : _ = val (aload T20 26 (.pointer (some ⟨B8, 0 + j * 2, none⟩)) H29_) H29_).trans (val_of ((aload_at gH29_B8).trans (aloadC_rowB (n := 2) (l := inC (oj, nj)) (by kernel_rfl) (by kernel_rfl) rfl (by rw [hLj]; exact insC_row L j hjL))))) ?_
      refine aops_go 2 60 (by kernel_rfl) ?_
      refine aops_val 126 (.pointer (some ⟨B7, 0 + j * 2, none⟩)) H29_ (by kernel_rfl) (by kernel_rfl) (by kernel_rfl) ((by kernel_rfl : _ = val (bif (j : Nat).blt i then some (.pointer (some ⟨B7, 0 + j * 2, none⟩)) else none) H29_).trans (by rw [show (j : Nat).blt i = true from (by rw [blt_dec]; simp only [decide_eq_true_eq]; omega)]; rfl)) ?_
      refine aops_val 127 (.agg #[.int .i64 oj, .int .u32 nj]) H29_ (by kernel_rfl) (by kernel_rfl) (by kernel_rfl) ((by kernel_rfl : _ = val (aload T20 26 (.pointer (some ⟨B7, 0 + j * 2, none⟩)) H29_) H29_).trans (val_of ((aload_at gH29_B7).trans (aloadC_rowB (n := 2) (l := inC (oj, nj)) (by kernel_rfl) (by kernel_rfl) rfl (by rw [hLj]; exact insC_row L j hjL))))) ?_
      refine aops_go 3 60 (by kernel_rfl) ?_
      refine aops_see 130 (.bool false) (see_bool (by kernel_rfl) ((by simp) : ((!(((oj : Int) == oj) && (((nj : Int) == nj) && true)))) = false)) ?_
      refine aops_go 4 60 (by kernel_rfl) ?_
      refine aops_see 134 (.bool false) (see_bool (by kernel_rfl) ((decide_eq_false (by omega)) : ((decide (((kk : Nat) : Int) < 1))) = false)) ?_
      refine aops_go 3 60 (by kernel_rfl) ?_
      refine aops_see 137 (.int .i64 (((bkE ls ns j) + kk : Nat) : Int)) (see_int (x := (IntKind.i64.wrap ((((bkE ls ns j) : Nat) : Int) + ((kk : Nat) : Int)))) (by kernel_rfl) (w64 (by omega) (by omega) (by omega))) ?_
      refine aops_go 4 60 (by kernel_rfl) ?_
      refine aops_end (by kernel_rfl) (then_normal ?_)
      refine aw_code f6bcccccccccacaacaacac_eq ?_
      refine aw_cond (t := false) (see_bool (by kernel_rfl) ((decide_eq_false (by omega)) : ((decide ((((bkE ls ns j) + kk : Nat) : Int) > ((l2.length : Nat) : Int)))) = false)) ?_
      refine aw_skip (then_normal ?_)
      refine aw_code f6bcccccccccacaacaacc_eq ?_
      refine aw_reg ?_
      refine aops_go 3 60 (by kernel_rfl) ?_
      refine aops_see 144 (.int .i64 (((bkE ls ns j) + kk : Nat) : Int)) (see_int (x := (IntKind.i64.wrap ((((bkE ls ns j) : Nat) : Int) + ((kk : Nat) : Int)))) (by kernel_rfl) (w64 (by omega) (by omega) (by omega))) ?_
      refine aops_go 1 60 (by kernel_rfl) ?_
      refine aops_end (by kernel_rfl) (blk_normal (then_normal ?_))
      refine aw_code f6bcccccccccacaacc_eq ?_
      refine aw_reg ?_
      refine aops_go 2 60 (by kernel_rfl) ?_
      refine aops_see 95 (.int .i64 ((j + 1 : Nat) : Int)) (see_int (x := (IntKind.i64.wrap (((j : Nat) : Int) + 1))) (by kernel_rfl) (w64 (by omega) (by omega) (by omega))) ?_
      refine aops_go 1 60 (by kernel_rfl) ?_
      refine aops_end (by kernel_rfl) (then_normal ⟨i - (j + 1), by omega, j + 1, H29_, rfl, by omega, ⟨by kernel_rfl, by kernel_rfl, by kernel_rfl, by kernel_rfl, by kernel_rfl, (by rw [hbj2]; kernel_rfl), by kernel_rfl, True.intro⟩, by kernel_rfl, hup2.trans ⟨by omega, fun b hb => by rw [hH29_, Heap.get_put, if_neg (by omega), hH28_, Heap.get_push, if_neg (by omega), uH27_.get _ (by omega), uH26_.get _ (by omega), uH25_.get _ (by omega), hH24_, Heap.get_push, if_neg (by omega)]⟩⟩)
    · skip
      have hgr2 : Gr H1b H.n 26 2 (.slice pt6 i cap6) i (insC L) := hgr.keep (lo' := H.n) (by omega) (fun b hb1 hb2 => by rw [hup2.get _ (by omega), uH23_.get _ (by omega), uH22_.get _ (by omega), hH21_, Heap.get_push, if_neg (by omega), uH20_.get _ (by omega), hH19_, Heap.get_push, if_neg (by omega), uH18_.get _ (by omega)])
      refine aw_code f6bcccccccccacaa_eq ?_
      refine aw_then ?_
      refine aw_code f6bcccccccccacaaa_eq ?_
      refine aw_then ?_
      refine aw_code f6bcccccccccacaaaa_eq ?_
      refine aw_reg ?_
      refine aops_go 4 60 (by kernel_rfl) ?_
      refine aops_end (by kernel_rfl) (then_normal ?_)
      refine aw_code f6bcccccccccacaaac_eq ?_
      refine aw_cond (t := false) (see_bool (by kernel_rfl) ((decide_eq_false (by omega)) : ((decide (((j : Nat) : Int) < ((i : Nat) : Int)))) = false)) ?_
      refine aw_exit (then_exit (then_exit (blk_hit (then_normal ?_))))
      refine aw_code f6bcccccccccc_eq ?_
      refine aw_then ?_
      refine aw_code f6bcccccccccca_eq ?_
      refine aw_reg ?_
      obtain ⟨H30_, hH30_⟩ : ∃ x : Heap, x = H1b.push ⟨[], 26, false⟩ := ⟨_, rfl⟩
      have nH30_ : H30_.n = H1b.n + 1 := by rw [hH30_]; rfl
      refine aops_val 146 (.slice (some ⟨H1b.n, 0, none⟩) 0 0) H30_ (by kernel_rfl) (by kernel_rfl) (by kernel_rfl) ((by kernel_rfl : _ = some (Res.val (.slice (some ⟨H1b.n, 0, none⟩) 0 0), H1b.push ⟨[], 26, false⟩)).trans (by rw [← hH30_])) ?_
      refine aops_go 1 60 (by kernel_rfl) ?_
      have gH30_H1b_n : H30_.get (H1b.n) = some ⟨[], 26, false⟩ := by rw [hH30_]; exact (Heap.get_push _ _ _).trans (if_pos rfl)
      have how0_6 : Ow H30_ (H1b.n) 26 2 (.slice (some ⟨H1b.n, 0, none⟩) 0 0) 0 [] := ⟨rfl, H1b.n, 0, rfl, .inr rfl, gH30_H1b_n, by omega, by omega⟩
      obtain ⟨owH31_, H31_, hapH31_, howH31_, uH31_⟩ := aappend_ow (T := T20) (st := 34) (xt := 34) (e := 26) (xd := .slice 26) (s0 := 1) (by_ := 15) (z := .agg #[.int .i64 0, .int .u32 0]) (by kernel_rfl) (by kernel_rfl) rfl (by kernel_rfl) (by kernel_rfl) (by kernel_rfl) how0_6 (by omega) (asrc_gr (hgr2.keep (lo' := H.n) (by omega) (fun b hb1 hb2 => by rw [hH30_, Heap.get_push, if_neg (by omega)]))) (by rw [insC_len]; omega) (all_ins _) (Ow.ne_gr how0_6 hgr2 (by omega)) (by first | omega | (simp only [List.length_take, List.length_drop]; omega))
      have nH31_ := uH31_.n
      refine aops_val 148 owH31_ H31_ (by kernel_rfl) (by kernel_rfl) (by kernel_rfl) ((by kernel_rfl : _ = val2 (aappend T20 34 34 (.slice (some ⟨H1b.n, 0, none⟩) 0 0) ((.slice pt6 i cap6)) H30_)).trans (by rw [hapH31_]; rfl)) ?_
      refine aops_go 1 60 (by kernel_rfl) ?_
      obtain ⟨H32_, hH32_⟩ : ∃ x : Heap, x = H31_.push ⟨[Value.int .i64 9, .int .u32 0], 26, false⟩ := ⟨_, rfl⟩
      have nH32_ : H32_.n = H31_.n + 1 := by rw [hH32_]; rfl
      refine aops_val 150 (.slice (some ⟨H31_.n, 0, none⟩) 1 1) H32_ (by kernel_rfl) (by kernel_rfl) (by kernel_rfl) ((by kernel_rfl : _ = some (Res.val (.slice (some ⟨H31_.n, 0, none⟩) 1 1), H31_.push ⟨[Value.int .i64 9, .int .u32 0], 26, false⟩)).trans (by rw [← hH32_])) ?_
      have gH32_H31__n : H32_.get (H31_.n) = some ⟨[Value.int .i64 9, .int .u32 0], 26, false⟩ := by rw [hH32_]; exact (Heap.get_push _ _ _).trans (if_pos rfl)
      obtain ⟨owH33_, H33_, hapH33_, howH33_, uH33_⟩ := aappend_ow (T := T20) (st := 34) (xt := 34) (e := 26) (xd := .slice 26) (s0 := 1) (by_ := 15) (z := .agg #[.int .i64 0, .int .u32 0]) (by kernel_rfl) (by kernel_rfl) rfl (by kernel_rfl) (by kernel_rfl) (by kernel_rfl) (howH31_.keep (by omega) (fun b hb1 hb2 => by rw [hH32_, Heap.get_push, if_neg (by omega)])) (by omega) (asrc_blk (l := [Value.int .i64 9, .int .u32 0]) gH32_H31__n rfl rfl) rfl rfl (Ow.ne howH31_ (by omega)) (by first | omega | (simp only [List.length_take, List.length_drop]; omega))
      have nH33_ := uH33_.n
      refine aops_val 151 owH33_ H33_ (by kernel_rfl) (by kernel_rfl) (by kernel_rfl) ((by kernel_rfl : _ = val2 (aappend T20 34 34 (owH31_) (.slice (some ⟨H31_.n, 0, none⟩) 1 1) H32_)).trans (by rw [hapH33_]; rfl)) ?_
      have hins : Ins H33_ owH33_ (L ++ [(9, 0)]) := Ow.ins (len := ((0 + i) + 1)) (by rw [insC_snoc]; exact howH33_)
      refine aops_call_to 152 21 #[owH33_] H33_ (by kernel_rfl) (by kernel_rfl) (fun v => (by kernel_rfl)) (by kernel_rfl) (by kernel_rfl) (join_any hins (by simp; omega)) ?_
      rintro r3 H34_ ⟨_, hj2, uH34_⟩
      have nH34_ := uH34_.n
      obtain rfl := hj2 (by simp [allR, right9])
      refine aops_go 5 60 (by kernel_rfl) ?_
      refine aops_end (by kernel_rfl) (then_normal ?_)
      refine aw_code f6bccccccccccc_eq ?_
      refine aw_then ?_
      refine aw_code f6bccccccccccca_eq ?_
      refine aw_reg ?_
      refine aops_go 4 60 (by kernel_rfl) ?_
      refine aops_see 158 (.bool true) (see_bool (by kernel_rfl) ((by rw [h5]; simp) : (((((bkE ls ns j) : Nat) : Int) == (((bkE ls ns i) : Nat) : Int))) = true)) ?_
      refine aops_go 4 60 (by kernel_rfl) ?_
      refine aops_ask 163 (.bool true) 11 #[] (by kernel_rfl) (by kernel_rfl) (by kernel_rfl) (by kernel_rfl) (by kernel_rfl) ?_
      refine aops_go 2 60 (by kernel_rfl) ?_
      refine aops_end (by kernel_rfl) (then_normal ?_)
      refine aw_ret (bodyQ_ret_to (.bool true) H34_ (by kernel_rfl) (by kernel_rfl) ?_)
      rfl
  · skip
    obtain ⟨A1, o1, k1, cells1, e1, ro1, hv1, g1, hA1, hc1⟩ := hN1.form (by omega)
    obtain ⟨hp1, _, hk1⟩ := Value.slice.inj hv1
    subst hp1 hk1
    have hx1 : cells1[o1 + i * 1]? = some (.int .i64 (ls.getD i 0)) := by rw [hc1 i (by omega), List.getD_eq_getElem?_getD, List.getElem?_eq_getElem (by omega : i < ls.length)]; rfl
    have gb1 : H1.get A1 = some ⟨cells1, e1, ro1⟩ := (hup.get _ hA1).trans g1
    obtain ⟨A2, o2, k2, cells2, e2, ro2, hv2, g2, hA2, hc2⟩ := hN2.form (by omega)
    obtain ⟨hp2, _, hk2⟩ := Value.slice.inj hv2
    subst hp2 hk2
    have hx2 : cells2[o2 + i * 1]? = some (.int .u32 (ns.getD i 0)) := by rw [hc2 i (by omega), List.getD_eq_getElem?_getD, List.getElem?_eq_getElem (by omega : i < ns.length)]; rfl
    have gb2 : H1.get A2 = some ⟨cells2, e2, ro2⟩ := (hup.get _ hA2).trans g2
    have hvB : vB ns i = (ns.getD i 0) := by unfold vB; rw [decide_eq_true (by omega)]; rfl
    have hu1 := getD_of (P := fun x => i64B x = true) hls rfl i
    have hu2 : u32B (ns.getD i 0) = true := by rw [← hvB]; exact vB_ok hns (by omega)
    have hok := okIn (ls.getD i 0) (ns.getD i 0) hu2
    obtain ⟨eb, heb⟩ : ∃ eb, eb = encB (opOf (ls.getD i 0)) (numOf (opOf (ls.getD i 0)) (ns.getD i 0)) := ⟨_, rfl⟩
    have heb5 : eb.length ≤ 5 := by rw [heb]; have h8 := encB_len hok; have h9 := hok.sz; simp only at h8 h9; omega
    have hsz : sizeV (opOf (ls.getD i 0)) = (eb.length : Int) := by rw [heb]; exact (encB_len hok).symm
    refine aw_code f6bcccacaa_eq ?_
    refine aw_then ?_
    refine aw_code f6bcccacaaa_eq ?_
    refine aw_then ?_
    refine aw_code f6bcccacaaaa_eq ?_
    refine aw_reg ?_
    refine aops_go 5 60 (by kernel_rfl) ?_
    refine aops_see 27 (.bool true) (see_bool (by kernel_rfl) ((decide_eq_true (by omega)) : ((decide (((i : Nat) : Int) < ((ls.length : Nat) : Int)))) = true)) ?_
    refine aops_go 3 60 (by kernel_rfl) ?_
    refine aops_end (by kernel_rfl) (then_normal ?_)
    refine aw_code f6bcccacaaac_eq ?_
    refine aw_cond (t := true) (see_bool (by kernel_rfl) ((decide_eq_true (by omega)) : ((decide (((i : Nat) : Int) < 40))) = true)) ?_
    refine aw_skip (then_normal ?_)
    refine aw_code f6bcccacaac_eq ?_
    refine aw_then ?_
    refine aw_code f6bcccacaaca_eq ?_
    refine aw_block ?_
    refine aw_code f6bcccacaacaa_eq ?_
    refine aw_then ?_
    refine aw_code f6bcccacaacaaa_eq ?_
    refine aw_reg ?_
    refine aops_go 2 60 (by kernel_rfl) ?_
    refine aops_see 34 (.int .u32 ((i : Nat) : Int)) (see_int (x := (IntKind.u32.wrap ((i : Nat) : Int))) (by kernel_rfl) (wu32 rfl (by omega) (by omega))) ?_
    refine aops_go 1 60 (by kernel_rfl) ?_
    refine aops_end (by kernel_rfl) (then_normal ?_)
    refine aw_code f6bcccacaacaac_eq ?_
    refine aw_then ?_
    refine aw_code f6bcccacaacaaca_eq ?_
    refine aw_then ?_
    refine aw_code f6bcccacaacaacaa_eq ?_
    refine aw_reg ?_
    refine aops_go 4 60 (by kernel_rfl) ?_
    refine aops_end (by kernel_rfl) (then_normal ?_)
    refine aw_code f6bcccacaacaacac_eq ?_
    refine aw_cond (t := true) (see_bool (by kernel_rfl) ((decide_eq_true (by omega)) : ((decide (((i : Nat) : Int) < ((ns.length : Nat) : Int)))) = true)) ?_
    refine aw_code f6bcccacaacaacaca_eq ?_
    refine aw_reg ?_
    refine aops_go 2 60 (by kernel_rfl) ?_
    refine aops_val 41 (.pointer (some ⟨A2, o2 + i * 1, none⟩)) H1 (by kernel_rfl) (by kernel_rfl) (by kernel_rfl) ((by kernel_rfl : _ = val (bif (i : Nat).blt ns.length then some (.pointer (some ⟨A2, o2 + i * 1, none⟩)) else none) H1).trans (by rw [show (i : Nat).blt ns.length = true from (by rw [blt_dec]; simp only [decide_eq_true_eq]; omega)]; rfl)) ?_
    refine aops_val 42 (.int .u32 (ns.getD i 0)) H1 (by kernel_rfl) (by kernel_rfl) (by kernel_rfl) ((by kernel_rfl : _ = val (aload T20 22 (.pointer (some ⟨A2, o2 + i * 1, none⟩)) H1) H1).trans (val_of ((aload_at gb2).trans (aloadC_cellB (n := 1) (by kernel_rfl) (by kernel_rfl) hx2)))) ?_
    refine aops_go 1 60 (by kernel_rfl) ?_
    refine aops_end (by kernel_rfl) (then_normal ?_)
    refine aw_code f6bcccacaacaacc_eq ?_
    refine aw_then ?_
    refine aw_code f6bcccacaacaacca_eq ?_
    refine aw_reg ?_
    refine aops_go 2 60 (by kernel_rfl) ?_
    refine aops_val 45 (.pointer (some ⟨A1, o1 + i * 1, none⟩)) H1 (by kernel_rfl) (by kernel_rfl) (by kernel_rfl) ((by kernel_rfl : _ = val (bif (i : Nat).blt ls.length then some (.pointer (some ⟨A1, o1 + i * 1, none⟩)) else none) H1).trans (by rw [show (i : Nat).blt ls.length = true from (by rw [blt_dec]; simp only [decide_eq_true_eq]; omega)]; rfl)) ?_
    refine aops_val 46 (.int .i64 (ls.getD i 0)) H1 (by kernel_rfl) (by kernel_rfl) (by kernel_rfl) ((by kernel_rfl : _ = val (aload T20 3 (.pointer (some ⟨A1, o1 + i * 1, none⟩)) H1) H1).trans (val_of ((aload_at gb1).trans (aloadC_cellB (n := 1) (by kernel_rfl) (by kernel_rfl) hx1)))) ?_
    refine aops_go 1 60 (by kernel_rfl) ?_
    refine aops_ask 48 (.agg #[.int .i64 (opOf (ls.getD i 0)), .int .u32 (numOf (opOf (ls.getD i 0)) (ns.getD i 0))]) 13 #[.int .i64 (ls.getD i 0), .int .u32 (ns.getD i 0)] (by kernel_rfl) (by kernel_rfl) (by kernel_rfl) (by kernel_rfl) (orc13 (ls.getD i 0) (ns.getD i 0) hu1 hu2) ?_
    obtain ⟨H35_, hH35_⟩ : ∃ x : Heap, x = H1.push ⟨[Value.int .i64 0, .int .u32 0], 26, false⟩ := ⟨_, rfl⟩
    have nH35_ : H35_.n = H1.n + 1 := by rw [hH35_]; rfl
    refine aops_val 11 (.pointer (some ⟨H1.n, 0, none⟩)) H35_ (by kernel_rfl) (by kernel_rfl) (by kernel_rfl) ((by kernel_rfl : _ = some (Res.val (.pointer (some ⟨H1.n, 0, none⟩)), H1.push ⟨[Value.int .i64 0, .int .u32 0], 26, false⟩)).trans (by rw [← hH35_])) ?_
    have gH35_H1_n : H35_.get (H1.n) = some ⟨[Value.int .i64 0, .int .u32 0], 26, false⟩ := by rw [hH35_]; exact (Heap.get_push _ _ _).trans (if_pos rfl)
    obtain ⟨H36_, hH36_⟩ : ∃ x : Heap, x = H35_.put (H1.n) ⟨[Value.int .i64 (opOf (ls.getD i 0)), .int .u32 (numOf (opOf (ls.getD i 0)) (ns.getD i 0))], 26, false⟩ := ⟨_, rfl⟩
    have nH36_ : H36_.n = H35_.n := by rw [hH36_]; rfl
    refine aops_skip H36_ (by kernel_rfl) (by kernel_rfl) (by kernel_rfl) ((by kernel_rfl : _ = skp (astore T20 26 (.pointer (some ⟨H1.n, 0, none⟩)) (.agg #[.int .i64 (opOf (ls.getD i 0)), .int .u32 (numOf (opOf (ls.getD i 0)) (ns.getD i 0))]) H35_)).trans (by rw [astore_to gH35_H1_n (by kernel_rfl), ← hH36_]; rfl)) ?_
    refine aops_end (by kernel_rfl) (then_normal ?_)
    refine aw_code f6bcccacaacaaccc_eq ?_
    refine aw_then ?_
    refine aw_code f6bcccacaacaaccca_eq ?_
    refine aw_reg ?_
    refine aops_go 1 60 (by kernel_rfl) ?_
    have gH36_H1_n : H36_.get (H1.n) = some ⟨[Value.int .i64 (opOf (ls.getD i 0)), .int .u32 (numOf (opOf (ls.getD i 0)) (ns.getD i 0))], 26, false⟩ := by rw [hH36_]; exact (Heap.get_put _ _ _ _).trans (if_pos rfl)
    refine aops_val 50 (.agg #[.int .i64 (opOf (ls.getD i 0)), .int .u32 (numOf (opOf (ls.getD i 0)) (ns.getD i 0))]) H36_ (by kernel_rfl) (by kernel_rfl) (by kernel_rfl) ((by kernel_rfl : _ = val (aload T20 26 (.pointer (some ⟨H1.n, 0, none⟩)) H36_) H36_).trans (val_of ((aload_at gH36_H1_n).trans (by kernel_rfl)))) ?_
    obtain ⟨H37_, hH37_⟩ : ∃ x : Heap, x = H36_.push ⟨[Value.int .i64 (opOf (ls.getD i 0)), .int .u32 (numOf (opOf (ls.getD i 0)) (ns.getD i 0))], 26, false⟩ := ⟨_, rfl⟩
    have nH37_ : H37_.n = H36_.n + 1 := by rw [hH37_]; rfl
    refine aops_val 51 (.slice (some ⟨H36_.n, 0, none⟩) 1 1) H37_ (by kernel_rfl) (by kernel_rfl) (by kernel_rfl) ((by kernel_rfl : _ = some (Res.val (.slice (some ⟨H36_.n, 0, none⟩) 1 1), H36_.push ⟨[Value.int .i64 (opOf (ls.getD i 0)), .int .u32 (numOf (opOf (ls.getD i 0)) (ns.getD i 0))], 26, false⟩)).trans (by rw [← hH37_])) ?_
    have gH37_H36__n : H37_.get (H36_.n) = some ⟨[Value.int .i64 (opOf (ls.getD i 0)), .int .u32 (numOf (opOf (ls.getD i 0)) (ns.getD i 0))], 26, false⟩ := by rw [hH37_]; exact (Heap.get_push _ _ _).trans (if_pos rfl)
    obtain ⟨ovH38_, H38_, hapH38_, hgrH38_, uH38_, frH38_, nH38_, _⟩ := aappend_gr (T := T20) (st := 34) (xt := 34) (e := 26) (xd := .slice 26) (s0 := 1) (by_ := 15) (z := .agg #[.int .i64 0, .int .u32 0]) (by kernel_rfl) (by kernel_rfl) rfl (by kernel_rfl) (by kernel_rfl) (by kernel_rfl) (lo := H.n) (hgr.keep (lo' := H.n) (by omega) (fun b hb1 hb2 => by rw [hH37_, Heap.get_push, if_neg (by omega), hH36_, Heap.get_put, if_neg (by omega), hH35_, Heap.get_push, if_neg (by omega)])) (x := .slice (some ⟨H36_.n, 0, none⟩) 1 1) (asrc_blk (l := [Value.int .i64 (opOf (ls.getD i 0)), .int .u32 (numOf (opOf (ls.getD i 0)) (ns.getD i 0))]) gH37_H36__n rfl rfl) rfl rfl (by omega) (Gr.ne hgr (by omega)) (by omega) (by omega)
    refine aops_val 52 ovH38_ H38_ (by kernel_rfl) (by kernel_rfl) (by kernel_rfl) ((by kernel_rfl : _ = val2 (aappend T20 34 34 sv (.slice (some ⟨H36_.n, 0, none⟩) 1 1) H37_)).trans (by rw [hapH38_]; rfl)) ?_
    refine aops_go 1 60 (by kernel_rfl) ?_
    refine aops_end (by kernel_rfl) (then_normal ?_)
    refine aw_code f6bcccacaacaacccc_eq ?_
    refine aw_reg ?_
    refine aops_go 2 60 (by kernel_rfl) ?_
    have gH38_H1_n : H38_.get (H1.n) = some ⟨[Value.int .i64 (opOf (ls.getD i 0)), .int .u32 (numOf (opOf (ls.getD i 0)) (ns.getD i 0))], 26, false⟩ := by rw [frH38_ _ (by omega) (Gr.fresh hgr (by omega))]; rw [hH37_, Heap.get_push, if_neg (by omega)]; exact gH36_H1_n
    refine aops_val 55 (.int .i64 (opOf (ls.getD i 0))) H38_ (by kernel_rfl) (by kernel_rfl) (by kernel_rfl) ((by kernel_rfl : _ = val (aload T20 3 (.pointer (some ⟨H1.n, 0, none⟩)) H38_) H38_).trans (val_of ((aload_at gH38_H1_n).trans (by kernel_rfl)))) ?_
    refine aops_ask 56 (.int .i64 (sizeV (opOf (ls.getD i 0)))) 15 #[.int .i64 (opOf (ls.getD i 0))] (by kernel_rfl) (by kernel_rfl) (by kernel_rfl) (by kernel_rfl) rfl ?_
    refine aops_go 1 60 (by kernel_rfl) ?_
    refine aops_see 57 (.int .i64 (((bkE ls ns i + eb.length) : Nat) : Int)) (see_int (x := (IntKind.i64.wrap ((((bkE ls ns i) : Nat) : Int) + (sizeV (opOf (ls.getD i 0)))))) (by kernel_rfl) (by rw [hsz]; exact w64 (by omega) (by omega) (by omega))) ?_
    refine aops_go 1 60 (by kernel_rfl) ?_
    refine aops_end (by kernel_rfl) (blk_normal (then_normal ?_))
    refine aw_code f6bcccacaacc_eq ?_
    refine aw_reg ?_
    refine aops_go 2 60 (by kernel_rfl) ?_
    refine aops_see 32 (.int .i64 ((i + 1 : Nat) : Int)) (see_int (x := (IntKind.i64.wrap (((i : Nat) : Int) + 1))) (by kernel_rfl) (w64 (by omega) (by omega) (by omega))) ?_
    refine aops_go 1 60 (by kernel_rfl) ?_
    have hEs : bkE ls ns (i + 1) = bkE ls ns i + eb.length := by rw [bkE_succ, hvB, heb]
    refine aops_end (by kernel_rfl) (then_normal ⟨40 - (i + 1), by omega, i + 1, ovH38_, H38_, rfl, by omega, by omega, ⟨by kernel_rfl, by kernel_rfl, by kernel_rfl, by kernel_rfl, (by rw [hEs]; kernel_rfl), by kernel_rfl, True.intro⟩, by kernel_rfl, hup.trans ⟨by omega, fun b hb => by rw [uH38_.get _ (by omega), hH37_, Heap.get_push, if_neg (by omega), hH36_, Heap.get_put, if_neg (by omega), hH35_, Heap.get_push, if_neg (by omega)]⟩, ?_⟩)
    rw [backL_succ, hvB, insC_snoc]; exact hgrH38_
  · skip
    obtain ⟨A1, o1, k1, cells1, e1, ro1, hv1, g1, hA1, hc1⟩ := hN1.form (by omega)
    obtain ⟨hp1, _, hk1⟩ := Value.slice.inj hv1
    subst hp1 hk1
    have hx1 : cells1[o1 + i * 1]? = some (.int .i64 (ls.getD i 0)) := by rw [hc1 i (by omega), List.getD_eq_getElem?_getD, List.getElem?_eq_getElem (by omega : i < ls.length)]; rfl
    have gb1 : H1.get A1 = some ⟨cells1, e1, ro1⟩ := (hup.get _ hA1).trans g1
    have hvB : vB ns i = ((i : Nat) : Int) := by unfold vB; rw [decide_eq_false (by omega)]; rfl
    have hu1 := getD_of (P := fun x => i64B x = true) hls rfl i
    have hu2 : u32B ((i : Nat) : Int) = true := by rw [← hvB]; exact vB_ok hns (by omega)
    have hok := okIn (ls.getD i 0) ((i : Nat) : Int) hu2
    obtain ⟨eb, heb⟩ : ∃ eb, eb = encB (opOf (ls.getD i 0)) (numOf (opOf (ls.getD i 0)) ((i : Nat) : Int)) := ⟨_, rfl⟩
    have heb5 : eb.length ≤ 5 := by rw [heb]; have h8 := encB_len hok; have h9 := hok.sz; simp only at h8 h9; omega
    have hsz : sizeV (opOf (ls.getD i 0)) = (eb.length : Int) := by rw [heb]; exact (encB_len hok).symm
    refine aw_code f6bcccacaa_eq ?_
    refine aw_then ?_
    refine aw_code f6bcccacaaa_eq ?_
    refine aw_then ?_
    refine aw_code f6bcccacaaaa_eq ?_
    refine aw_reg ?_
    refine aops_go 5 60 (by kernel_rfl) ?_
    refine aops_see 27 (.bool true) (see_bool (by kernel_rfl) ((decide_eq_true (by omega)) : ((decide (((i : Nat) : Int) < ((ls.length : Nat) : Int)))) = true)) ?_
    refine aops_go 3 60 (by kernel_rfl) ?_
    refine aops_end (by kernel_rfl) (then_normal ?_)
    refine aw_code f6bcccacaaac_eq ?_
    refine aw_cond (t := true) (see_bool (by kernel_rfl) ((decide_eq_true (by omega)) : ((decide (((i : Nat) : Int) < 40))) = true)) ?_
    refine aw_skip (then_normal ?_)
    refine aw_code f6bcccacaac_eq ?_
    refine aw_then ?_
    refine aw_code f6bcccacaaca_eq ?_
    refine aw_block ?_
    refine aw_code f6bcccacaacaa_eq ?_
    refine aw_then ?_
    refine aw_code f6bcccacaacaaa_eq ?_
    refine aw_reg ?_
    refine aops_go 2 60 (by kernel_rfl) ?_
    refine aops_see 34 (.int .u32 ((i : Nat) : Int)) (see_int (x := (IntKind.u32.wrap ((i : Nat) : Int))) (by kernel_rfl) (wu32 rfl (by omega) (by omega))) ?_
    refine aops_go 1 60 (by kernel_rfl) ?_
    refine aops_end (by kernel_rfl) (then_normal ?_)
    refine aw_code f6bcccacaacaac_eq ?_
    refine aw_then ?_
    refine aw_code f6bcccacaacaaca_eq ?_
    refine aw_then ?_
    refine aw_code f6bcccacaacaacaa_eq ?_
    refine aw_reg ?_
    refine aops_go 4 60 (by kernel_rfl) ?_
    refine aops_end (by kernel_rfl) (then_normal ?_)
    refine aw_code f6bcccacaacaacac_eq ?_
    refine aw_cond (t := false) (see_bool (by kernel_rfl) ((decide_eq_false (by omega)) : ((decide (((i : Nat) : Int) < ((ns.length : Nat) : Int)))) = false)) ?_
    refine aw_skip (then_normal ?_)
    refine aw_code f6bcccacaacaacc_eq ?_
    refine aw_then ?_
    refine aw_code f6bcccacaacaacca_eq ?_
    refine aw_reg ?_
    refine aops_go 2 60 (by kernel_rfl) ?_
    refine aops_val 45 (.pointer (some ⟨A1, o1 + i * 1, none⟩)) H1 (by kernel_rfl) (by kernel_rfl) (by kernel_rfl) ((by kernel_rfl : _ = val (bif (i : Nat).blt ls.length then some (.pointer (some ⟨A1, o1 + i * 1, none⟩)) else none) H1).trans (by rw [show (i : Nat).blt ls.length = true from (by rw [blt_dec]; simp only [decide_eq_true_eq]; omega)]; rfl)) ?_
    refine aops_val 46 (.int .i64 (ls.getD i 0)) H1 (by kernel_rfl) (by kernel_rfl) (by kernel_rfl) ((by kernel_rfl : _ = val (aload T20 3 (.pointer (some ⟨A1, o1 + i * 1, none⟩)) H1) H1).trans (val_of ((aload_at gb1).trans (aloadC_cellB (n := 1) (by kernel_rfl) (by kernel_rfl) hx1)))) ?_
    refine aops_go 1 60 (by kernel_rfl) ?_
    refine aops_ask 48 (.agg #[.int .i64 (opOf (ls.getD i 0)), .int .u32 (numOf (opOf (ls.getD i 0)) ((i : Nat) : Int))]) 13 #[.int .i64 (ls.getD i 0), .int .u32 ((i : Nat) : Int)] (by kernel_rfl) (by kernel_rfl) (by kernel_rfl) (by kernel_rfl) (orc13 (ls.getD i 0) ((i : Nat) : Int) hu1 hu2) ?_
    obtain ⟨H39_, hH39_⟩ : ∃ x : Heap, x = H1.push ⟨[Value.int .i64 0, .int .u32 0], 26, false⟩ := ⟨_, rfl⟩
    have nH39_ : H39_.n = H1.n + 1 := by rw [hH39_]; rfl
    refine aops_val 11 (.pointer (some ⟨H1.n, 0, none⟩)) H39_ (by kernel_rfl) (by kernel_rfl) (by kernel_rfl) ((by kernel_rfl : _ = some (Res.val (.pointer (some ⟨H1.n, 0, none⟩)), H1.push ⟨[Value.int .i64 0, .int .u32 0], 26, false⟩)).trans (by rw [← hH39_])) ?_
    have gH39_H1_n : H39_.get (H1.n) = some ⟨[Value.int .i64 0, .int .u32 0], 26, false⟩ := by rw [hH39_]; exact (Heap.get_push _ _ _).trans (if_pos rfl)
    obtain ⟨H40_, hH40_⟩ : ∃ x : Heap, x = H39_.put (H1.n) ⟨[Value.int .i64 (opOf (ls.getD i 0)), .int .u32 (numOf (opOf (ls.getD i 0)) ((i : Nat) : Int))], 26, false⟩ := ⟨_, rfl⟩
    have nH40_ : H40_.n = H39_.n := by rw [hH40_]; rfl
    refine aops_skip H40_ (by kernel_rfl) (by kernel_rfl) (by kernel_rfl) ((by kernel_rfl : _ = skp (astore T20 26 (.pointer (some ⟨H1.n, 0, none⟩)) (.agg #[.int .i64 (opOf (ls.getD i 0)), .int .u32 (numOf (opOf (ls.getD i 0)) ((i : Nat) : Int))]) H39_)).trans (by rw [astore_to gH39_H1_n (by kernel_rfl), ← hH40_]; rfl)) ?_
    refine aops_end (by kernel_rfl) (then_normal ?_)
    refine aw_code f6bcccacaacaaccc_eq ?_
    refine aw_then ?_
    refine aw_code f6bcccacaacaaccca_eq ?_
    refine aw_reg ?_
    refine aops_go 1 60 (by kernel_rfl) ?_
    have gH40_H1_n : H40_.get (H1.n) = some ⟨[Value.int .i64 (opOf (ls.getD i 0)), .int .u32 (numOf (opOf (ls.getD i 0)) ((i : Nat) : Int))], 26, false⟩ := by rw [hH40_]; exact (Heap.get_put _ _ _ _).trans (if_pos rfl)
    refine aops_val 50 (.agg #[.int .i64 (opOf (ls.getD i 0)), .int .u32 (numOf (opOf (ls.getD i 0)) ((i : Nat) : Int))]) H40_ (by kernel_rfl) (by kernel_rfl) (by kernel_rfl) ((by kernel_rfl : _ = val (aload T20 26 (.pointer (some ⟨H1.n, 0, none⟩)) H40_) H40_).trans (val_of ((aload_at gH40_H1_n).trans (by kernel_rfl)))) ?_
    obtain ⟨H41_, hH41_⟩ : ∃ x : Heap, x = H40_.push ⟨[Value.int .i64 (opOf (ls.getD i 0)), .int .u32 (numOf (opOf (ls.getD i 0)) ((i : Nat) : Int))], 26, false⟩ := ⟨_, rfl⟩
    have nH41_ : H41_.n = H40_.n + 1 := by rw [hH41_]; rfl
    refine aops_val 51 (.slice (some ⟨H40_.n, 0, none⟩) 1 1) H41_ (by kernel_rfl) (by kernel_rfl) (by kernel_rfl) ((by kernel_rfl : _ = some (Res.val (.slice (some ⟨H40_.n, 0, none⟩) 1 1), H40_.push ⟨[Value.int .i64 (opOf (ls.getD i 0)), .int .u32 (numOf (opOf (ls.getD i 0)) ((i : Nat) : Int))], 26, false⟩)).trans (by rw [← hH41_])) ?_
    have gH41_H40__n : H41_.get (H40_.n) = some ⟨[Value.int .i64 (opOf (ls.getD i 0)), .int .u32 (numOf (opOf (ls.getD i 0)) ((i : Nat) : Int))], 26, false⟩ := by rw [hH41_]; exact (Heap.get_push _ _ _).trans (if_pos rfl)
    obtain ⟨ovH42_, H42_, hapH42_, hgrH42_, uH42_, frH42_, nH42_, _⟩ := aappend_gr (T := T20) (st := 34) (xt := 34) (e := 26) (xd := .slice 26) (s0 := 1) (by_ := 15) (z := .agg #[.int .i64 0, .int .u32 0]) (by kernel_rfl) (by kernel_rfl) rfl (by kernel_rfl) (by kernel_rfl) (by kernel_rfl) (lo := H.n) (hgr.keep (lo' := H.n) (by omega) (fun b hb1 hb2 => by rw [hH41_, Heap.get_push, if_neg (by omega), hH40_, Heap.get_put, if_neg (by omega), hH39_, Heap.get_push, if_neg (by omega)])) (x := .slice (some ⟨H40_.n, 0, none⟩) 1 1) (asrc_blk (l := [Value.int .i64 (opOf (ls.getD i 0)), .int .u32 (numOf (opOf (ls.getD i 0)) ((i : Nat) : Int))]) gH41_H40__n rfl rfl) rfl rfl (by omega) (Gr.ne hgr (by omega)) (by omega) (by omega)
    refine aops_val 52 ovH42_ H42_ (by kernel_rfl) (by kernel_rfl) (by kernel_rfl) ((by kernel_rfl : _ = val2 (aappend T20 34 34 sv (.slice (some ⟨H40_.n, 0, none⟩) 1 1) H41_)).trans (by rw [hapH42_]; rfl)) ?_
    refine aops_go 1 60 (by kernel_rfl) ?_
    refine aops_end (by kernel_rfl) (then_normal ?_)
    refine aw_code f6bcccacaacaacccc_eq ?_
    refine aw_reg ?_
    refine aops_go 2 60 (by kernel_rfl) ?_
    have gH42_H1_n : H42_.get (H1.n) = some ⟨[Value.int .i64 (opOf (ls.getD i 0)), .int .u32 (numOf (opOf (ls.getD i 0)) ((i : Nat) : Int))], 26, false⟩ := by rw [frH42_ _ (by omega) (Gr.fresh hgr (by omega))]; rw [hH41_, Heap.get_push, if_neg (by omega)]; exact gH40_H1_n
    refine aops_val 55 (.int .i64 (opOf (ls.getD i 0))) H42_ (by kernel_rfl) (by kernel_rfl) (by kernel_rfl) ((by kernel_rfl : _ = val (aload T20 3 (.pointer (some ⟨H1.n, 0, none⟩)) H42_) H42_).trans (val_of ((aload_at gH42_H1_n).trans (by kernel_rfl)))) ?_
    refine aops_ask 56 (.int .i64 (sizeV (opOf (ls.getD i 0)))) 15 #[.int .i64 (opOf (ls.getD i 0))] (by kernel_rfl) (by kernel_rfl) (by kernel_rfl) (by kernel_rfl) rfl ?_
    refine aops_go 1 60 (by kernel_rfl) ?_
    refine aops_see 57 (.int .i64 (((bkE ls ns i + eb.length) : Nat) : Int)) (see_int (x := (IntKind.i64.wrap ((((bkE ls ns i) : Nat) : Int) + (sizeV (opOf (ls.getD i 0)))))) (by kernel_rfl) (by rw [hsz]; exact w64 (by omega) (by omega) (by omega))) ?_
    refine aops_go 1 60 (by kernel_rfl) ?_
    refine aops_end (by kernel_rfl) (blk_normal (then_normal ?_))
    refine aw_code f6bcccacaacc_eq ?_
    refine aw_reg ?_
    refine aops_go 2 60 (by kernel_rfl) ?_
    refine aops_see 32 (.int .i64 ((i + 1 : Nat) : Int)) (see_int (x := (IntKind.i64.wrap (((i : Nat) : Int) + 1))) (by kernel_rfl) (w64 (by omega) (by omega) (by omega))) ?_
    refine aops_go 1 60 (by kernel_rfl) ?_
    have hEs : bkE ls ns (i + 1) = bkE ls ns i + eb.length := by rw [bkE_succ, hvB, heb]
    refine aops_end (by kernel_rfl) (then_normal ⟨40 - (i + 1), by omega, i + 1, ovH42_, H42_, rfl, by omega, by omega, ⟨by kernel_rfl, by kernel_rfl, by kernel_rfl, by kernel_rfl, (by rw [hEs]; kernel_rfl), by kernel_rfl, True.intro⟩, by kernel_rfl, hup.trans ⟨by omega, fun b hb => by rw [uH42_.get _ (by omega), hH41_, Heap.get_push, if_neg (by omega), hH40_, Heap.get_put, if_neg (by omega), hH39_, Heap.get_push, if_neg (by omega)]⟩, ?_⟩)
    rw [backL_succ, hvB, insC_snoc]; exact hgrH42_
end Gc
end Go.Proofs.YtpfmmckbfejfnaaDoor
