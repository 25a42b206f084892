/- Chapter 2: All, and bytes cut. -/
import Derived.Test.YtpfmmckbfejfnaaDoorGq
namespace Go.Proofs.YtpfmmckbfejfnaaDoor
open Go Go.Ev Go.RowKit
set_option linter.unusedVariables false
set_option linter.unusedSimpArgs false
set_option maxRecDepth 100000
namespace Gc
theorem Gr.snoc {H : Heap} {lo : Nat} {v : Value} {is : List In} {a N : Int} (h : Gr H lo 26 2 v (is.length + 1) (insC is ++ [.int .i64 a, .int .u32 N])) : Gr H lo 26 2 v (is ++ [(a, N)]).length (insC (is ++ [(a, N)])) := by
  have e : insC (is ++ [(a, N)]) = insC is ++ [.int .i64 a, .int .u32 N] := by simp [insC, inC]
  rw [e, List.length_append]
  exact h
noncomputable def f24b : Code := Tryd.f24.body.getD .skip
noncomputable def f24ba : Code := cl f24b
noncomputable def f24bao : Array Oper := opsOf f24ba
noncomputable def f24bc : Code := cr f24b
noncomputable def f24bca : Code := cl f24bc
noncomputable def f24bcaa : Code := cl f24bca
noncomputable def f24bcaao : Array Oper := opsOf f24bcaa
noncomputable def f24bcac : Code := cr f24bca
noncomputable def f24bcaca : Code := cl f24bcac
noncomputable def f24bcacaa : Code := cl f24bcaca
noncomputable def f24bcacaao : Array Oper := opsOf f24bcacaa
noncomputable def f24bcc : Code := cr f24bc
noncomputable def f24bcca : Code := cl f24bcc
noncomputable def f24bccao : Array Oper := opsOf f24bcca
theorem f24ba_eq : f24ba = .region 0 f24bao false := by kernel_rfl
theorem f24bcaa_eq : f24bcaa = .region 1 f24bcaao false := by kernel_rfl
theorem f24bcacaa_eq : f24bcacaa = .region 2 f24bcacaao false := by kernel_rfl
theorem f24bcaca_eq : f24bcaca = .seq f24bcacaa .ret := by kernel_rfl
theorem f24bcac_eq : f24bcac = .cond (cop f24bcac) f24bcaca .skip := by kernel_rfl
theorem f24bca_eq : f24bca = .seq f24bcaa f24bcac := by kernel_rfl
theorem f24bcca_eq : f24bcca = .region 3 f24bccao false := by kernel_rfl
theorem f24bcc_eq : f24bcc = .seq f24bcca .ret := by kernel_rfl
theorem f24bc_eq : f24bc = .seq f24bca f24bcc := by kernel_rfl
theorem f24b_eq : f24b = .seq f24ba f24bc := by kernel_rfl
theorem f24_body : Tryd.f24.body = some f24b := by kernel_rfl
theorem f24_fn : T20.fn 24 = some Tryd.f24 := by kernel_rfl
theorem cut_long {H : Heap} {pt : Option Addr} {cap n : Nat} {l : List Int} (hB : Byts H (.slice pt l.length cap) l) (hC : CapV pt l.length cap) (hn : n < l.length) : ACall Tryd.prog T20 24 #[.slice pt l.length cap, .int .i64 ((n : Nat) : Int)] H fun r H' => H = H' ∧ ∃ pt' cap', r = .slice pt' (l.take n).length cap' ∧ Byts H (.slice pt' (l.take n).length cap') (l.take n) ∧ CapV pt' (l.take n).length cap' ∧ blk pt' = blk pt := by
  refine acall_of' 13 (initTm 0 #[(.slice pt l.length cap), .int .i64 ((n : Nat) : Int)]) rfl f24_fn f24_body rfl rfl ?_
  refine aw_code f24b_eq ?_
  refine aw_then ?_
  refine aw_code f24ba_eq ?_
  refine aw_reg ?_
  refine aops_go 1 60 (by kernel_rfl) ?_
  refine aops_end (by kernel_rfl) (then_normal ?_)
  refine aw_code f24bc_eq ?_
  refine aw_then ?_
  refine aw_code f24bca_eq ?_
  refine aw_then ?_
  refine aw_code f24bcaa_eq ?_
  refine aw_reg ?_
  refine aops_go 4 60 (by kernel_rfl) ?_
  refine aops_end (by kernel_rfl) (then_normal ?_)
  refine aw_code f24bcac_eq ?_
  refine aw_cond (t := true) (see_bool (by kernel_rfl) ((by simp; omega) : ((decide (((l.length : Nat) : Int) > ((n : Nat) : Int)))) = true)) ?_
  refine aw_code f24bcaca_eq ?_
  refine aw_then ?_
  refine aw_code f24bcacaa_eq ?_
  refine aw_reg ?_
  refine aops_go 2 60 (by kernel_rfl) ?_
  obtain ⟨pt1_, cap1_, hs1_, hB1_, hC1_, hP1_⟩ := aslice_byts (T := T20) (t := 27) (e := 5) (by kernel_rfl) (by kernel_rfl) hB hC 0 n (vlo := none) (vhi := (some (.int .i64 (Int.ofNat n)))) (.inl ⟨rfl, rfl⟩) (.inr rfl) (by omega) (by omega)
  rw [List.drop_zero] at hB1_
  refine aops_val 11 (.slice pt1_ (n - 0) cap1_) H (by kernel_rfl) (by kernel_rfl) (by kernel_rfl) (ha_sl (H := H) (t := 27) (x := .tmp 9) (lo := none) (hi := (some (.tmp 10))) (mx := none) (u := (.slice pt l.length cap)) (l := none) (h := (some (.int .i64 (Int.ofNat n)))) (m := none) (by kernel_rfl) (by kernel_rfl) (by kernel_rfl) (by kernel_rfl) (by kernel_rfl) (by kernel_rfl) hs1_ (by kernel_rfl)) ?_
  refine aops_go 1 60 (by kernel_rfl) ?_
  refine aops_end (by kernel_rfl) (then_normal ?_)
  refine aw_ret (then_ret (bodyQ_ret_to ((.slice pt1_ (n - 0) cap1_)) H (by kernel_rfl) (by kernel_rfl) ?_))
  have e : (l.take n).length = n - 0 := by simp; omega
  exact ⟨rfl, pt1_, cap1_, by rw [e], by rw [e]; exact hB1_, by rw [e]; exact hC1_, hP1_⟩
theorem cut_short {H : Heap} {pt : Option Addr} {cap n : Nat} {l : List Int} (hB : Byts H (.slice pt l.length cap) l) (hC : CapV pt l.length cap) (hn : l.length ≤ n) : ACall Tryd.prog T20 24 #[.slice pt l.length cap, .int .i64 ((n : Nat) : Int)] H fun r H' => H = H' ∧ ∃ pt' cap', r = .slice pt' (l.take n).length cap' ∧ Byts H (.slice pt' (l.take n).length cap') (l.take n) ∧ CapV pt' (l.take n).length cap' ∧ blk pt' = blk pt := by
  refine acall_of' 13 (initTm 0 #[(.slice pt l.length cap), .int .i64 ((n : Nat) : Int)]) rfl f24_fn f24_body rfl rfl ?_
  refine aw_code f24b_eq ?_
  refine aw_then ?_
  refine aw_code f24ba_eq ?_
  refine aw_reg ?_
  refine aops_go 1 60 (by kernel_rfl) ?_
  refine aops_end (by kernel_rfl) (then_normal ?_)
  refine aw_code f24bc_eq ?_
  refine aw_then ?_
  refine aw_code f24bca_eq ?_
  refine aw_then ?_
  refine aw_code f24bcaa_eq ?_
  refine aw_reg ?_
  refine aops_go 4 60 (by kernel_rfl) ?_
  refine aops_end (by kernel_rfl) (then_normal ?_)
  refine aw_code f24bcac_eq ?_
  refine aw_cond (t := false) (see_bool (by kernel_rfl) ((by simp; omega) : ((decide (((l.length : Nat) : Int) > ((n : Nat) : Int)))) = false)) ?_
  refine aw_skip (then_normal ?_)
  refine aw_code f24bcc_eq ?_
  refine aw_then ?_
  refine aw_code f24bcca_eq ?_
  refine aw_reg ?_
  refine aops_go 2 60 (by kernel_rfl) ?_
  refine aops_end (by kernel_rfl) (then_normal ?_)
  refine aw_ret (bodyQ_ret_to ((.slice pt l.length cap)) H (by kernel_rfl) (by kernel_rfl) ?_)
  have e : l.take n = l := List.take_of_length_le (by omega)
  rw [e]
  exact ⟨rfl, pt, cap, rfl, hB, hC, rfl⟩
theorem cut_any {H : Heap} {pt : Option Addr} {cap n : Nat} {l : List Int} (hB : Byts H (.slice pt l.length cap) l) (hC : CapV pt l.length cap) : ACall Tryd.prog T20 24 #[.slice pt l.length cap, .int .i64 ((n : Nat) : Int)] H fun r H' => H = H' ∧ ∃ pt' cap', r = .slice pt' (l.take n).length cap' ∧ Byts H (.slice pt' (l.take n).length cap') (l.take n) ∧ CapV pt' (l.take n).length cap' ∧ blk pt' = blk pt := by
  rcases Nat.lt_or_ge n l.length with h | h
  · exact cut_long hB hC h
  · exact cut_short hB hC h
noncomputable def f22b : Code := Tryd.f22.body.getD .skip
noncomputable def f22ba : Code := cl f22b
noncomputable def f22bao : Array Oper := opsOf f22ba
noncomputable def f22bc : Code := cr f22b
noncomputable def f22bca : Code := cl f22bc
noncomputable def f22bcao : Array Oper := opsOf f22bca
noncomputable def f22bcc : Code := cr f22bc
noncomputable def f22bcca : Code := cl f22bcc
noncomputable def f22bccao : Array Oper := opsOf f22bcca
noncomputable def f22bccc : Code := cr f22bcc
noncomputable def f22bccca : Code := cl f22bccc
noncomputable def f22bcccaa : Code := cl f22bccca
noncomputable def f22bcccaaa : Code := cl f22bcccaa
noncomputable def f22bcccaaaa : Code := cl f22bcccaaa
noncomputable def f22bcccaaaao : Array Oper := opsOf f22bcccaaaa
noncomputable def f22bcccaaac : Code := cr f22bcccaaa
noncomputable def f22bcccaaaca : Code := cl f22bcccaaac
noncomputable def f22bcccaaacaa : Code := cl f22bcccaaaca
noncomputable def f22bcccaaacaao : Array Oper := opsOf f22bcccaaacaa
noncomputable def f22bcccaaacac : Code := cr f22bcccaaaca
noncomputable def f22bcccaaacaca : Code := cl f22bcccaaacac
noncomputable def f22bcccaaacacaa : Code := cl f22bcccaaacaca
noncomputable def f22bcccaaacacaao : Array Oper := opsOf f22bcccaaacacaa
noncomputable def f22bcccaaacc : Code := cr f22bcccaaac
noncomputable def f22bcccaaacca : Code := cl f22bcccaaacc
noncomputable def f22bcccaaaccao : Array Oper := opsOf f22bcccaaacca
noncomputable def f22bcccaaaccc : Code := cr f22bcccaaacc
noncomputable def f22bcccaaaccco : Array Oper := opsOf f22bcccaaaccc
theorem f22ba_eq : f22ba = .region 0 f22bao false := by kernel_rfl
theorem f22bca_eq : f22bca = .region 1 f22bcao false := by kernel_rfl
theorem f22bcca_eq : f22bcca = .region 2 f22bccao false := by kernel_rfl
theorem f22bcccaaaa_eq : f22bcccaaaa = .region 3 f22bcccaaaao false := by kernel_rfl
theorem f22bcccaaacaa_eq : f22bcccaaacaa = .region 4 f22bcccaaacaao false := by kernel_rfl
theorem f22bcccaaacacaa_eq : f22bcccaaacacaa = .region 5 f22bcccaaacacaao false := by kernel_rfl
theorem f22bcccaaacaca_eq : f22bcccaaacaca = .seq f22bcccaaacacaa .ret := by kernel_rfl
theorem f22bcccaaacac_eq : f22bcccaaacac = .cond (cop f22bcccaaacac) f22bcccaaacaca .skip := by kernel_rfl
theorem f22bcccaaaca_eq : f22bcccaaaca = .seq f22bcccaaacaa f22bcccaaacac := by kernel_rfl
theorem f22bcccaaacca_eq : f22bcccaaacca = .region 6 f22bcccaaaccao false := by kernel_rfl
theorem f22bcccaaaccc_eq : f22bcccaaaccc = .region 7 f22bcccaaaccco false := by kernel_rfl
theorem f22bcccaaacc_eq : f22bcccaaacc = .seq f22bcccaaacca f22bcccaaaccc := by kernel_rfl
theorem f22bcccaaac_eq : f22bcccaaac = .seq f22bcccaaaca f22bcccaaacc := by kernel_rfl
theorem f22bcccaaa_eq : f22bcccaaa = .seq f22bcccaaaa f22bcccaaac := by kernel_rfl
theorem f22bcccaa_eq : f22bcccaa = .block 1 f22bcccaaa := by kernel_rfl
theorem f22bccca_eq : f22bccca = .loop f22bcccaa := by kernel_rfl
theorem f22bccc_eq : f22bccc = .block 0 f22bccca := by kernel_rfl
theorem f22bcc_eq : f22bcc = .seq f22bcca f22bccc := by kernel_rfl
theorem f22bc_eq : f22bc = .seq f22bca f22bcc := by kernel_rfl
theorem f22b_eq : f22b = .seq f22ba f22bc := by kernel_rfl
theorem f22_body : Tryd.f22.body = some f22b := by kernel_rfl
theorem f22_fn : T20.fn 22 = some Tryd.f22 := by kernel_rfl
theorem all_any {H : Heap} {pt : Option Addr} {cap : Nat} {l : List Int} (hB : Byts H (.slice pt l.length cap) l) (hC : CapV pt l.length cap) (hb : ∀ x ∈ l, 0 ≤ x ∧ x < 256) (hll : l.length ≤ 100000) : ACall Tryd.prog T20 22 #[.slice pt l.length cap] H fun r H' => ∃ is e ov, r = .tuple #[ov, .int .i64 ((e : Nat) : Int)] ∧ Dec l is e ∧ (readL (l.drop e)).2.2.2 ≠ 0 ∧ Gr H' H.n 26 2 ov is.length (insC is) ∧ Up H.n H H' := by
  refine acall_of' 28 (initTm 0 #[(.slice pt l.length cap)]) rfl f22_fn f22_body rfl rfl ?_
  refine aw_code f22b_eq ?_
  refine aw_then ?_
  refine aw_code f22ba_eq ?_
  refine aw_reg ?_
  refine aops_go 2 60 (by kernel_rfl) ?_
  refine aops_end (by kernel_rfl) (then_normal ?_)
  refine aw_code f22bc_eq ?_
  refine aw_then ?_
  refine aw_code f22bca_eq ?_
  refine aw_reg ?_
  refine aops_go 1 60 (by kernel_rfl) ?_
  refine aops_end (by kernel_rfl) (then_normal ?_)
  refine aw_code f22bcc_eq ?_
  refine aw_then ?_
  refine aw_code f22bcca_eq ?_
  refine aw_reg ?_
  refine aops_go 1 60 (by kernel_rfl) ?_
  refine aops_end (by kernel_rfl) (then_normal ?_)
  refine aw_code f22bccc_eq ?_
  refine aw_block ?_
  refine aw_code f22bccca_eq ?_
  refine aw_loop (fun m st => ∃ (is : List In) (e : Nat) (ov : Value) (H1 : Heap), m = l.length - e ∧ Dec l is e ∧ Kn st.tm [(0, (.slice pt l.length cap)), (4, ov), (5, .int .i64 ((e : Nat) : Int))] ∧ st.H = H1 ∧ Up H.n H H1 ∧ Gr H1 H.n 26 2 ov is.length (insC is)) l.length ⟨[], 0, .slice none 0 0, H, rfl, .nil, ⟨by kernel_rfl, by kernel_rfl, by kernel_rfl, True.intro⟩, by kernel_rfl, Up.refl H, Gr.nil⟩ ?_
  rintro m st ⟨is, e, ov, H1, hm, hdec, hkn, hH, hup, hgr⟩
  have nH1 := hup.n
  have hel := hdec.le hb
  have hil : is.length ≤ 100000 := by have := (hdec.join hb).2.2.2; omega
  have hB1 : Byts H1 (.slice pt l.length cap) l := hB.keep hup.n hup.get
  refine aw_kn' [(0, (.slice pt l.length cap)), (4, ov), (5, .int .i64 ((e : Nat) : Int))] hkn hH fun tm => ?_
  have hin := readL_in (l.drop e)
  rcases hd : readL (l.drop e) with ⟨a, N, sz, er⟩
  rw [hd] at hin
  rcases hin with ⟨h1, h2⟩ | ⟨h1, h2⟩ | ⟨h1, h2, h3⟩
  · skip
    simp only at h1 h2; subst h1 h2
    refine aw_code f22bcccaa_eq ?_
    refine aw_block ?_
    refine aw_code f22bcccaaa_eq ?_
    refine aw_then ?_
    refine aw_code f22bcccaaaa_eq ?_
    refine aw_reg ?_
    refine aops_go 2 60 (by kernel_rfl) ?_
    obtain ⟨pt1_, cap1_, hs1_, hB1_, hC1_, hP1_⟩ := aslice_byts (T := T20) (t := 27) (e := 5) (by kernel_rfl) (by kernel_rfl) hB1 hC e l.length (vlo := (some (.int .i64 (Int.ofNat e)))) (vhi := none) (.inr rfl) (.inl ⟨rfl, rfl⟩) (by omega) (by omega)
    rw [List.take_length] at hB1_
    refine aops_val 12 (.slice pt1_ (l.length - e) cap1_) H1 (by kernel_rfl) (by kernel_rfl) (by kernel_rfl) (ha_sl (H := H1) (t := 27) (x := .tmp 10) (lo := (some (.tmp 11))) (hi := none) (mx := none) (u := (.slice pt l.length cap)) (l := (some (.int .i64 (Int.ofNat e)))) (h := none) (m := none) (by kernel_rfl) (by kernel_rfl) (by kernel_rfl) (by kernel_rfl) (by kernel_rfl) (by kernel_rfl) hs1_ (by kernel_rfl)) ?_
    refine aops_call_to 13 23 #[(.slice pt1_ (l.length - e) cap1_)] H1 (by kernel_rfl) (by kernel_rfl) (fun v => (by kernel_rfl)) (by kernel_rfl) (by kernel_rfl) (dec_to hB1_ hd) ?_
    rintro _ H1_ ⟨rfl, uH1_⟩
    have nH1_ := uH1_.n
    refine aops_go 4 60 (by kernel_rfl) ?_
    obtain ⟨H2_, hH2_⟩ : ∃ x : Heap, x = H1_.push ⟨[Value.int .i64 0, .int .u32 0], 26, false⟩ := ⟨_, rfl⟩
    have nH2_ : H2_.n = H1_.n + 1 := by rw [hH2_]; rfl
    refine aops_val 6 (.pointer (some ⟨H1_.n, 0, none⟩)) H2_ (by kernel_rfl) (by kernel_rfl) (by kernel_rfl) ((by kernel_rfl : _ = some (Res.val (.pointer (some ⟨H1_.n, 0, none⟩)), H1_.push ⟨[Value.int .i64 0, .int .u32 0], 26, false⟩)).trans (by rw [← hH2_])) ?_
    have gH2_H1__n : H2_.get (H1_.n) = some ⟨[Value.int .i64 0, .int .u32 0], 26, false⟩ := by rw [hH2_]; exact (Heap.get_push _ _ _).trans (if_pos rfl)
    obtain ⟨H3_, hH3_⟩ : ∃ x : Heap, x = H2_.put (H1_.n) ⟨[Value.int .i64 a, .int .u32 N], 26, false⟩ := ⟨_, rfl⟩
    have nH3_ : H3_.n = H2_.n := by rw [hH3_]; rfl
    refine aops_skip H3_ (by kernel_rfl) (by kernel_rfl) (by kernel_rfl) ((by kernel_rfl : _ = skp (astore T20 26 (.pointer (some ⟨H1_.n, 0, none⟩)) (.agg #[.int .i64 a, .int .u32 N]) H2_)).trans (by rw [astore_to gH2_H1__n (by kernel_rfl), ← hH3_]; rfl)) ?_
    refine aops_go 2 60 (by kernel_rfl) ?_
    refine aops_end (by kernel_rfl) (then_normal ?_)
    refine aw_code f22bcccaaac_eq ?_
    refine aw_then ?_
    refine aw_code f22bcccaaaca_eq ?_
    refine aw_then ?_
    refine aw_code f22bcccaaacaa_eq ?_
    refine aw_reg ?_
    refine aops_go 2 60 (by kernel_rfl) ?_
    refine aops_end (by kernel_rfl) (then_normal ?_)
    refine aw_code f22bcccaaacac_eq ?_
    refine aw_cond (t := true) (by kernel_rfl) ?_
    refine aw_code f22bcccaaacaca_eq ?_
    refine aw_then ?_
    refine aw_code f22bcccaaacacaa_eq ?_
    refine aw_reg ?_
    refine aops_go 4 60 (by kernel_rfl) ?_
    refine aops_end (by kernel_rfl) (then_normal ?_)
    refine aw_ret (then_ret (blk_ret (then_ret (blk_ret (bodyQ_ret_to (.tuple #[ov, .int .i64 ((e : Nat) : Int)]) H3_ (by kernel_rfl) (by kernel_rfl) ?_)))))
    exact ⟨is, e, ov, rfl, hdec, by rw [hd]; simp, hgr.keep (lo' := H.n) (by omega) (fun b hb1 hb2 => by rw [hH3_, Heap.get_put, if_neg (by omega), hH2_, Heap.get_push, if_neg (by omega), uH1_.get _ (by omega)]), hup.trans (show Up H.n H1 H3_ from ⟨by omega, fun b hb => by rw [hH3_, Heap.get_put, if_neg (by omega), hH2_, Heap.get_push, if_neg (by omega), uH1_.get _ (by omega)]⟩)⟩
  · skip
    simp only at h1 h2; subst h1 h2
    refine aw_code f22bcccaa_eq ?_
    refine aw_block ?_
    refine aw_code f22bcccaaa_eq ?_
    refine aw_then ?_
    refine aw_code f22bcccaaaa_eq ?_
    refine aw_reg ?_
    refine aops_go 2 60 (by kernel_rfl) ?_
    obtain ⟨pt2_, cap2_, hs2_, hB2_, hC2_, hP2_⟩ := aslice_byts (T := T20) (t := 27) (e := 5) (by kernel_rfl) (by kernel_rfl) hB1 hC e l.length (vlo := (some (.int .i64 (Int.ofNat e)))) (vhi := none) (.inr rfl) (.inl ⟨rfl, rfl⟩) (by omega) (by omega)
    rw [List.take_length] at hB2_
    refine aops_val 12 (.slice pt2_ (l.length - e) cap2_) H1 (by kernel_rfl) (by kernel_rfl) (by kernel_rfl) (ha_sl (H := H1) (t := 27) (x := .tmp 10) (lo := (some (.tmp 11))) (hi := none) (mx := none) (u := (.slice pt l.length cap)) (l := (some (.int .i64 (Int.ofNat e)))) (h := none) (m := none) (by kernel_rfl) (by kernel_rfl) (by kernel_rfl) (by kernel_rfl) (by kernel_rfl) (by kernel_rfl) hs2_ (by kernel_rfl)) ?_
    refine aops_call_to 13 23 #[(.slice pt2_ (l.length - e) cap2_)] H1 (by kernel_rfl) (by kernel_rfl) (fun v => (by kernel_rfl)) (by kernel_rfl) (by kernel_rfl) (dec_to hB2_ hd) ?_
    rintro _ H4_ ⟨rfl, uH4_⟩
    have nH4_ := uH4_.n
    refine aops_go 4 60 (by kernel_rfl) ?_
    obtain ⟨H5_, hH5_⟩ : ∃ x : Heap, x = H4_.push ⟨[Value.int .i64 0, .int .u32 0], 26, false⟩ := ⟨_, rfl⟩
    have nH5_ : H5_.n = H4_.n + 1 := by rw [hH5_]; rfl
    refine aops_val 6 (.pointer (some ⟨H4_.n, 0, none⟩)) H5_ (by kernel_rfl) (by kernel_rfl) (by kernel_rfl) ((by kernel_rfl : _ = some (Res.val (.pointer (some ⟨H4_.n, 0, none⟩)), H4_.push ⟨[Value.int .i64 0, .int .u32 0], 26, false⟩)).trans (by rw [← hH5_])) ?_
    have gH5_H4__n : H5_.get (H4_.n) = some ⟨[Value.int .i64 0, .int .u32 0], 26, false⟩ := by rw [hH5_]; exact (Heap.get_push _ _ _).trans (if_pos rfl)
    obtain ⟨H6_, hH6_⟩ : ∃ x : Heap, x = H5_.put (H4_.n) ⟨[Value.int .i64 a, .int .u32 N], 26, false⟩ := ⟨_, rfl⟩
    have nH6_ : H6_.n = H5_.n := by rw [hH6_]; rfl
    refine aops_skip H6_ (by kernel_rfl) (by kernel_rfl) (by kernel_rfl) ((by kernel_rfl : _ = skp (astore T20 26 (.pointer (some ⟨H4_.n, 0, none⟩)) (.agg #[.int .i64 a, .int .u32 N]) H5_)).trans (by rw [astore_to gH5_H4__n (by kernel_rfl), ← hH6_]; rfl)) ?_
    refine aops_go 2 60 (by kernel_rfl) ?_
    refine aops_end (by kernel_rfl) (then_normal ?_)
    refine aw_code f22bcccaaac_eq ?_
    refine aw_then ?_
    refine aw_code f22bcccaaaca_eq ?_
    refine aw_then ?_
    refine aw_code f22bcccaaacaa_eq ?_
    refine aw_reg ?_
    refine aops_go 2 60 (by kernel_rfl) ?_
    refine aops_end (by kernel_rfl) (then_normal ?_)
    refine aw_code f22bcccaaacac_eq ?_
    refine aw_cond (t := true) (by kernel_rfl) ?_
    refine aw_code f22bcccaaacaca_eq ?_
    refine aw_then ?_
    refine aw_code f22bcccaaacacaa_eq ?_
    refine aw_reg ?_
    refine aops_go 4 60 (by kernel_rfl) ?_
    refine aops_end (by kernel_rfl) (then_normal ?_)
    refine aw_ret (then_ret (blk_ret (then_ret (blk_ret (bodyQ_ret_to (.tuple #[ov, .int .i64 ((e : Nat) : Int)]) H6_ (by kernel_rfl) (by kernel_rfl) ?_)))))
    exact ⟨is, e, ov, rfl, hdec, by rw [hd]; simp, hgr.keep (lo' := H.n) (by omega) (fun b hb1 hb2 => by rw [hH6_, Heap.get_put, if_neg (by omega), hH5_, Heap.get_push, if_neg (by omega), uH4_.get _ (by omega)]), hup.trans (show Up H.n H1 H6_ from ⟨by omega, fun b hb => by rw [hH6_, Heap.get_put, if_neg (by omega), hH5_, Heap.get_push, if_neg (by omega), uH4_.get _ (by omega)]⟩)⟩
  · skip
    simp only at h1 h3; subst h3
    obtain ⟨k, rfl, hk0, hkl, _, _, _, _⟩ := read_enc (fun x hx => hb x (List.mem_of_mem_drop hx)) hd
    simp only [List.length_drop] at hkl
    refine aw_code f22bcccaa_eq ?_
    refine aw_block ?_
    refine aw_code f22bcccaaa_eq ?_
    refine aw_then ?_
    refine aw_code f22bcccaaaa_eq ?_
    refine aw_reg ?_
    refine aops_go 2 60 (by kernel_rfl) ?_
    obtain ⟨pt3_, cap3_, hs3_, hB3_, hC3_, hP3_⟩ := aslice_byts (T := T20) (t := 27) (e := 5) (by kernel_rfl) (by kernel_rfl) hB1 hC e l.length (vlo := (some (.int .i64 (Int.ofNat e)))) (vhi := none) (.inr rfl) (.inl ⟨rfl, rfl⟩) (by omega) (by omega)
    rw [List.take_length] at hB3_
    refine aops_val 12 (.slice pt3_ (l.length - e) cap3_) H1 (by kernel_rfl) (by kernel_rfl) (by kernel_rfl) (ha_sl (H := H1) (t := 27) (x := .tmp 10) (lo := (some (.tmp 11))) (hi := none) (mx := none) (u := (.slice pt l.length cap)) (l := (some (.int .i64 (Int.ofNat e)))) (h := none) (m := none) (by kernel_rfl) (by kernel_rfl) (by kernel_rfl) (by kernel_rfl) (by kernel_rfl) (by kernel_rfl) hs3_ (by kernel_rfl)) ?_
    refine aops_call_to 13 23 #[(.slice pt3_ (l.length - e) cap3_)] H1 (by kernel_rfl) (by kernel_rfl) (fun v => (by kernel_rfl)) (by kernel_rfl) (by kernel_rfl) (dec_to hB3_ hd) ?_
    rintro _ H7_ ⟨rfl, uH7_⟩
    have nH7_ := uH7_.n
    refine aops_go 4 60 (by kernel_rfl) ?_
    obtain ⟨H8_, hH8_⟩ : ∃ x : Heap, x = H7_.push ⟨[Value.int .i64 0, .int .u32 0], 26, false⟩ := ⟨_, rfl⟩
    have nH8_ : H8_.n = H7_.n + 1 := by rw [hH8_]; rfl
    refine aops_val 6 (.pointer (some ⟨H7_.n, 0, none⟩)) H8_ (by kernel_rfl) (by kernel_rfl) (by kernel_rfl) ((by kernel_rfl : _ = some (Res.val (.pointer (some ⟨H7_.n, 0, none⟩)), H7_.push ⟨[Value.int .i64 0, .int .u32 0], 26, false⟩)).trans (by rw [← hH8_])) ?_
    have gH8_H7__n : H8_.get (H7_.n) = some ⟨[Value.int .i64 0, .int .u32 0], 26, false⟩ := by rw [hH8_]; exact (Heap.get_push _ _ _).trans (if_pos rfl)
    obtain ⟨H9_, hH9_⟩ : ∃ x : Heap, x = H8_.put (H7_.n) ⟨[Value.int .i64 a, .int .u32 N], 26, false⟩ := ⟨_, rfl⟩
    have nH9_ : H9_.n = H8_.n := by rw [hH9_]; rfl
    refine aops_skip H9_ (by kernel_rfl) (by kernel_rfl) (by kernel_rfl) ((by kernel_rfl : _ = skp (astore T20 26 (.pointer (some ⟨H7_.n, 0, none⟩)) (.agg #[.int .i64 a, .int .u32 N]) H8_)).trans (by rw [astore_to gH8_H7__n (by kernel_rfl), ← hH9_]; rfl)) ?_
    refine aops_go 2 60 (by kernel_rfl) ?_
    refine aops_end (by kernel_rfl) (then_normal ?_)
    refine aw_code f22bcccaaac_eq ?_
    refine aw_then ?_
    refine aw_code f22bcccaaaca_eq ?_
    refine aw_then ?_
    refine aw_code f22bcccaaacaa_eq ?_
    refine aw_reg ?_
    refine aops_go 2 60 (by kernel_rfl) ?_
    refine aops_end (by kernel_rfl) (then_normal ?_)
    refine aw_code f22bcccaaacac_eq ?_
    refine aw_cond (t := false) (by kernel_rfl) ?_
    refine aw_skip (then_normal ?_)
    refine aw_code f22bcccaaacc_eq ?_
    refine aw_then ?_
    refine aw_code f22bcccaaacca_eq ?_
    refine aw_reg ?_
    refine aops_go 1 60 (by kernel_rfl) ?_
    have gH9_H7__n : H9_.get (H7_.n) = some ⟨[Value.int .i64 a, .int .u32 N], 26, false⟩ := by rw [hH9_]; exact (Heap.get_put _ _ _ _).trans (if_pos rfl)
    refine aops_val 22 (.agg #[.int .i64 a, .int .u32 N]) H9_ (by kernel_rfl) (by kernel_rfl) (by kernel_rfl) ((by kernel_rfl : _ = val (aload T20 26 (.pointer (some ⟨H7_.n, 0, none⟩)) H9_) H9_).trans (val_of ((aload_at gH9_H7__n).trans (by kernel_rfl)))) ?_
    obtain ⟨H10_, hH10_⟩ : ∃ x : Heap, x = H9_.push ⟨[Value.int .i64 a, .int .u32 N], 26, false⟩ := ⟨_, rfl⟩
    have nH10_ : H10_.n = H9_.n + 1 := by rw [hH10_]; rfl
    refine aops_val 23 (.slice (some ⟨H9_.n, 0, none⟩) 1 1) H10_ (by kernel_rfl) (by kernel_rfl) (by kernel_rfl) ((by kernel_rfl : _ = some (Res.val (.slice (some ⟨H9_.n, 0, none⟩) 1 1), H9_.push ⟨[Value.int .i64 a, .int .u32 N], 26, false⟩)).trans (by rw [← hH10_])) ?_
    have gH10_H9__n : H10_.get (H9_.n) = some ⟨[Value.int .i64 a, .int .u32 N], 26, false⟩ := by rw [hH10_]; exact (Heap.get_push _ _ _).trans (if_pos rfl)
    obtain ⟨ovH11_, H11_, hapH11_, hgrH11_, uH11_, frH11_, nH11_, _⟩ := aappend_gr (T := T20) (st := 34) (xt := 34) (e := 26) (xd := .slice 26) (s0 := 1) (by_ := 15) (z := .agg #[.int .i64 0, .int .u32 0]) (by kernel_rfl) (by kernel_rfl) rfl (by kernel_rfl) (by kernel_rfl) (by kernel_rfl) (lo := H.n) (hgr.keep (lo' := H.n) (by omega) (fun b hb1 hb2 => by rw [hH10_, Heap.get_push, if_neg (by omega), hH9_, Heap.get_put, if_neg (by omega), hH8_, Heap.get_push, if_neg (by omega), uH7_.get _ (by omega)])) (x := .slice (some ⟨H9_.n, 0, none⟩) 1 1) (asrc_blk (l := [Value.int .i64 a, .int .u32 N]) gH10_H9__n rfl rfl) rfl rfl (by omega) (Gr.ne hgr (by omega)) (by omega) (by omega)
    refine aops_val 24 ovH11_ H11_ (by kernel_rfl) (by kernel_rfl) (by kernel_rfl) ((by kernel_rfl : _ = val2 (aappend T20 34 34 ov (.slice (some ⟨H9_.n, 0, none⟩) 1 1) H10_)).trans (by rw [hapH11_]; rfl)) ?_
    refine aops_go 1 60 (by kernel_rfl) ?_
    refine aops_end (by kernel_rfl) (then_normal ?_)
    refine aw_code f22bcccaaaccc_eq ?_
    refine aw_reg ?_
    refine aops_go 3 60 (by kernel_rfl) ?_
    refine aops_see 27 (.int .i64 ((e + k : Nat) : Int)) (see_int (x := (IntKind.i64.wrap (((e : Nat) : Int) + ((k : Nat) : Int)))) (by kernel_rfl) (w64 (by omega) (by omega) (by omega))) ?_
    refine aops_go 1 60 (by kernel_rfl) ?_
    refine aops_end (by kernel_rfl) (blk_normal (then_normal ⟨l.length - (e + k), by omega, is ++ [(a, N)], e + k, ovH11_, H11_, rfl, .snoc hdec hd hk0, ⟨by kernel_rfl, by kernel_rfl, by kernel_rfl, True.intro⟩, by kernel_rfl, hup.trans (show Up H.n H1 H11_ from ⟨by omega, fun b hb => by rw [uH11_.get _ (by omega), hH10_, Heap.get_push, if_neg (by omega), hH9_, Heap.get_put, if_neg (by omega), hH8_, Heap.get_push, if_neg (by omega), uH7_.get _ (by omega)]⟩), Gr.snoc hgrH11_⟩))
end Gc
end Go.Proofs.YtpfmmckbfejfnaaDoor
