/- Chapter 2: instructions one behind the other, as bytes. -/
import Derived.Test.YtpfmmckbfejfnaaDoorGp
namespace Go.Proofs.YtpfmmckbfejfnaaDoor
open Go Go.Ev Go.RowKit
set_option linter.unusedVariables false
set_option linter.unusedSimpArgs false
set_option maxRecDepth 100000
namespace Gc
theorem encL_length (op N : Int) (h : sizeV op = 1 ∨ sizeV op = 2 ∨ sizeV op = 5) : ((encL op N).length : Int) = sizeV op := by
  unfold encL
  rcases h with h | h | h <;> simp [h]
theorem encL_le (op N : Int) : (encL op N).length ≤ 5 := by
  unfold encL
  cases sizeV op == 1 <;> cases sizeV op == 2 <;> simp
theorem right_size {op N : Int} (h : rightV op N = true) : sizeV op = 1 ∨ sizeV op = 2 ∨ sizeV op = 5 := by
  rcases sizeV_in op with e | e | e | e
  · unfold rightV at h; rw [e] at h; simp at h
  · exact .inl e
  · exact .inr (.inl e)
  · exact .inr (.inr e)
theorem put_gr {op N : Int} {H : Heap} {lo : Nat} {v : Value} {len : Nat} {xs : List Value} (hg : Gr H lo 5 1 v len xs) (hlo : lo ≤ H.n) (hl : len ≤ 1000000000) (hr : sizeV op = 1 ∨ sizeV op = 2 ∨ sizeV op = 5) :
    ACall Tryd.prog T20 40 #[v, .agg #[.int .i64 op, .int .u32 N]] H fun r H' => Gr H' lo 5 1 r (len + (encL op N).length) (xs ++ encL op N) ∧ Up lo H H' := by
  have hs := hg.size
  rw [Nat.mul_one] at hs
  rcases hg.at_ with ⟨rfl, rfl⟩ | ⟨B, rfl, g, hB, hlB⟩
  · have hxs : xs = [] := by simpa using hs
    subst hxs
    rcases hr with hz | hz | hz
    · refine (put_nil1 (N := N) hz).mono fun r H' ⟨B', e, g', h1, h2, h3, h4⟩ => ?_
      have he : encL op N = [by0 op] := by simp [encL, hz]
      rw [he]
      exact ⟨⟨by simp, .inr ⟨B', by simpa using e, by simpa using g', h1, by omega⟩⟩, ⟨h3, fun b hb => h4 b (by omega)⟩⟩
    · refine (put_nil2 (N := N) hz).mono fun r H' ⟨B', e, g', h1, h2, h3, h4⟩ => ?_
      have he : encL op N = [by0 op, byN N 1] := by simp [encL, hz]
      rw [he]
      exact ⟨⟨by simp, .inr ⟨B', by simpa using e, by simpa using g', h1, by omega⟩⟩, ⟨h3, fun b hb => h4 b (by omega)⟩⟩
    · refine (put_nil5 (N := N) hz).mono fun r H' ⟨B', e, g', h1, h2, h3, h4⟩ => ?_
      have he : encL op N = [by0 op, byN N 1, byN N 256, byN N 65536, byN N 16777216] := by simp [encL, hz]
      rw [he]
      exact ⟨⟨by simp, .inr ⟨B', by simpa using e, by simpa using g', h1, by omega⟩⟩, ⟨h3, fun b hb => h4 b (by omega)⟩⟩
  · rcases hr with hz | hz | hz
    · refine (put_own1 (N := N) g hB hs hl hz).mono fun r H' ⟨B', e, g', h1, h2, h3, h4⟩ => ?_
      have he : encL op N = [by0 op] := by simp [encL, hz]
      rw [he]
      exact ⟨⟨by simp [hs], .inr ⟨B', e, g', h1, by omega⟩⟩, ⟨h3, fun b hb => h4 b (by omega) (by omega)⟩⟩
    · refine (put_own2 (N := N) g hB hs hl hz).mono fun r H' ⟨B', e, g', h1, h2, h3, h4⟩ => ?_
      have he : encL op N = [by0 op, byN N 1] := by simp [encL, hz]
      rw [he]
      exact ⟨⟨by simp [hs], .inr ⟨B', e, g', h1, by omega⟩⟩, ⟨h3, fun b hb => h4 b (by omega) (by omega)⟩⟩
    · refine (put_own5 (N := N) g hB hs hl hz).mono fun r H' ⟨B', e, g', h1, h2, h3, h4⟩ => ?_
      have he : encL op N = [by0 op, byN N 1, byN N 256, byN N 65536, byN N 16777216] := by simp [encL, hz]
      rw [he]
      exact ⟨⟨by simp [hs], .inr ⟨B', e, g', h1, by omega⟩⟩, ⟨h3, fun b hb => h4 b (by omega) (by omega)⟩⟩
abbrev In := Int × Int
def inC (p : In) : List Value := [.int .i64 p.1, .int .u32 p.2]
/-- A slice of instructions that is read. -/
structure Ins (H : Heap) (v : Value) (l : List In) : Prop where
  at_ : (v = .slice none 0 0 ∧ l = []) ∨ ∃ A off cap cells e ro, v = .slice (some ⟨A, off, none⟩) l.length cap ∧ H.get A = some ⟨cells, e, ro⟩ ∧ A < H.n ∧ ∀ k (h : k < l.length), (cells.drop (off + k * 2)).take 2 = inC l[k]
def joinL (l : List In) : List Value := l.flatMap fun p => encL p.1 p.2
def allR (l : List In) : Bool := l.all fun p => rightV p.1 p.2
theorem joinL_le (l : List In) : (joinL l).length ≤ 5 * l.length := by
  induction l with
  | nil => simp [joinL]
  | cons p l ih =>
    have := encL_le p.1 p.2
    simp only [joinL, List.flatMap_cons, List.length_append, List.length_cons] at ih ⊢
    omega
theorem joinL_take {l : List In} {k : Nat} (h : k < l.length) : joinL (l.take (k + 1)) = joinL (l.take k) ++ encL l[k].1 l[k].2 := by
  unfold joinL
  rw [List.take_succ_eq_append_getElem h, List.flatMap_append]
  simp
theorem allR_take {l : List In} {k : Nat} (h : k < l.length) (h1 : allR (l.take k) = true) (h2 : rightV l[k].1 l[k].2 = true) : allR (l.take (k + 1)) = true := by
  rw [List.take_succ_eq_append_getElem h]
  simp only [allR, List.all_append, List.all_cons, List.all_nil, Bool.and_true, Bool.and_eq_true]
  exact ⟨h1, h2⟩
theorem allR_not {l : List In} {k : Nat} (h : k < l.length) (h2 : rightV l[k].1 l[k].2 = false) : allR l = false := by
  cases h3 : allR l with
  | false => rfl
  | true =>
    have := List.all_eq_true.1 h3 l[k] (List.getElem_mem h)
    rw [h2] at this; cases this
noncomputable def f21b : Code := Tryd.f21.body.getD .skip
noncomputable def f21ba : Code := cl f21b
noncomputable def f21bao : Array Oper := opsOf f21ba
noncomputable def f21bc : Code := cr f21b
noncomputable def f21bca : Code := cl f21bc
noncomputable def f21bcao : Array Oper := opsOf f21bca
noncomputable def f21bcc : Code := cr f21bc
noncomputable def f21bcca : Code := cl f21bcc
noncomputable def f21bccaa : Code := cl f21bcca
noncomputable def f21bccaao : Array Oper := opsOf f21bccaa
noncomputable def f21bccac : Code := cr f21bcca
noncomputable def f21bccaca : Code := cl f21bccac
noncomputable def f21bccacaa : Code := cl f21bccaca
noncomputable def f21bccacaaa : Code := cl f21bccacaa
noncomputable def f21bccacaaao : Array Oper := opsOf f21bccacaaa
noncomputable def f21bccacaac : Code := cr f21bccacaa
noncomputable def f21bccacaaca : Code := cl f21bccacaac
noncomputable def f21bccacaacc : Code := cr f21bccacaac
noncomputable def f21bccacaacca : Code := cl f21bccacaacc
noncomputable def f21bccacaaccaa : Code := cl f21bccacaacca
noncomputable def f21bccacaaccaaa : Code := cl f21bccacaaccaa
noncomputable def f21bccacaaccaaao : Array Oper := opsOf f21bccacaaccaaa
noncomputable def f21bccacaaccaac : Code := cr f21bccacaaccaa
noncomputable def f21bccacaaccaaca : Code := cl f21bccacaaccaac
noncomputable def f21bccacaaccaacaa : Code := cl f21bccacaaccaaca
noncomputable def f21bccacaaccaacaao : Array Oper := opsOf f21bccacaaccaacaa
noncomputable def f21bccacaaccaacac : Code := cr f21bccacaaccaaca
noncomputable def f21bccacaaccaacaca : Code := cl f21bccacaaccaacac
noncomputable def f21bccacaaccaacacaa : Code := cl f21bccacaaccaacaca
noncomputable def f21bccacaaccaacacaao : Array Oper := opsOf f21bccacaaccaacacaa
noncomputable def f21bccacaaccaacc : Code := cr f21bccacaaccaac
noncomputable def f21bccacaaccaacco : Array Oper := opsOf f21bccacaaccaacc
noncomputable def f21bccacaaccc : Code := cr f21bccacaacc
noncomputable def f21bccacaaccco : Array Oper := opsOf f21bccacaaccc
noncomputable def f21bccc : Code := cr f21bcc
noncomputable def f21bccca : Code := cl f21bccc
noncomputable def f21bcccao : Array Oper := opsOf f21bccca
theorem f21ba_eq : f21ba = .region 0 f21bao false := by kernel_rfl
theorem f21bca_eq : f21bca = .region 1 f21bcao false := by kernel_rfl
theorem f21bccaa_eq : f21bccaa = .region 2 f21bccaao false := by kernel_rfl
theorem f21bccacaaa_eq : f21bccacaaa = .region 3 f21bccacaaao false := by kernel_rfl
theorem f21bccacaaca_eq : f21bccacaaca = .cond (cop f21bccacaaca) .skip (.exit 0) := by kernel_rfl
theorem f21bccacaaccaaa_eq : f21bccacaaccaaa = .region 4 f21bccacaaccaaao false := by kernel_rfl
theorem f21bccacaaccaacaa_eq : f21bccacaaccaacaa = .region 5 f21bccacaaccaacaao false := by kernel_rfl
theorem f21bccacaaccaacacaa_eq : f21bccacaaccaacacaa = .region 6 f21bccacaaccaacacaao false := by kernel_rfl
theorem f21bccacaaccaacaca_eq : f21bccacaaccaacaca = .seq f21bccacaaccaacacaa .ret := by kernel_rfl
theorem f21bccacaaccaacac_eq : f21bccacaaccaacac = .cond (cop f21bccacaaccaacac) f21bccacaaccaacaca .skip := by kernel_rfl
theorem f21bccacaaccaaca_eq : f21bccacaaccaaca = .seq f21bccacaaccaacaa f21bccacaaccaacac := by kernel_rfl
theorem f21bccacaaccaacc_eq : f21bccacaaccaacc = .region 7 f21bccacaaccaacco false := by kernel_rfl
theorem f21bccacaaccaac_eq : f21bccacaaccaac = .seq f21bccacaaccaaca f21bccacaaccaacc := by kernel_rfl
theorem f21bccacaaccaa_eq : f21bccacaaccaa = .seq f21bccacaaccaaa f21bccacaaccaac := by kernel_rfl
theorem f21bccacaacca_eq : f21bccacaacca = .block 1 f21bccacaaccaa := by kernel_rfl
theorem f21bccacaaccc_eq : f21bccacaaccc = .region 8 f21bccacaaccco false := by kernel_rfl
theorem f21bccacaacc_eq : f21bccacaacc = .seq f21bccacaacca f21bccacaaccc := by kernel_rfl
theorem f21bccacaac_eq : f21bccacaac = .seq f21bccacaaca f21bccacaacc := by kernel_rfl
theorem f21bccacaa_eq : f21bccacaa = .seq f21bccacaaa f21bccacaac := by kernel_rfl
theorem f21bccaca_eq : f21bccaca = .loop f21bccacaa := by kernel_rfl
theorem f21bccac_eq : f21bccac = .block 0 f21bccaca := by kernel_rfl
theorem f21bcca_eq : f21bcca = .seq f21bccaa f21bccac := by kernel_rfl
theorem f21bccca_eq : f21bccca = .region 9 f21bcccao false := by kernel_rfl
theorem f21bccc_eq : f21bccc = .seq f21bccca .ret := by kernel_rfl
theorem f21bcc_eq : f21bcc = .seq f21bcca f21bccc := by kernel_rfl
theorem f21bc_eq : f21bc = .seq f21bca f21bcc := by kernel_rfl
theorem f21b_eq : f21b = .seq f21ba f21bc := by kernel_rfl
theorem f21_body : Tryd.f21.body = some f21b := by kernel_rfl
theorem f21_fn : T20.fn 21 = some Tryd.f21 := by kernel_rfl
theorem join_own {H : Heap} {A off cap : Nat} {l : List In} {cells : List Value} {e : TypeId} {ro : Bool} (gA : H.get A = some ⟨cells, e, ro⟩) (hA : A < H.n) (hrow : ∀ k (h : k < l.length), (cells.drop (off + k * 2)).take 2 = inC l[k]) (hll : l.length ≤ 100000000) : ACall Tryd.prog T20 21 #[.slice (some ⟨A, off, none⟩) l.length cap] H fun r H' => (allR l = true → ∃ bv, r = .tuple #[bv, .int .i64 0] ∧ Gr H' H.n 5 1 bv (joinL l).length (joinL l)) ∧ (allR l = false → r = .tuple #[.slice none 0 0, .int .i64 12]) ∧ Up H.n H H' := by
  refine acall_of' 21 (initTm 0 #[.slice (some ⟨A, off, none⟩) l.length cap]) rfl f21_fn f21_body rfl rfl ?_
  rw [f21b_eq]
  refine aw_then ?_
  rw [f21ba_eq]
  refine aw_reg ?_
  refine aops_go 2 60 (by kernel_rfl) ?_
  refine aops_end (by kernel_rfl) (then_normal ?_)
  rw [f21bc_eq]
  refine aw_then ?_
  rw [f21bca_eq]
  refine aw_reg ?_
  refine aops_go 1 60 (by kernel_rfl) ?_
  refine aops_end (by kernel_rfl) (then_normal ?_)
  rw [f21bcc_eq]
  refine aw_then ?_
  rw [f21bcca_eq]
  refine aw_then ?_
  rw [f21bccaa_eq]
  refine aw_reg ?_
  refine aops_go 3 60 (by kernel_rfl) ?_
  refine aops_end (by kernel_rfl) (then_normal ?_)
  rw [f21bccac_eq]
  refine aw_block ?_
  rw [f21bccaca_eq]
  refine aw_loop (fun m st => ∃ (k : Nat) (bv : Value) (H1 : Heap), m = l.length - k ∧ k ≤ l.length ∧ allR (l.take k) = true ∧ Kn st.tm [(2, .slice none 0 0), (3, .int .i64 0), (4, bv), (7, .slice (some ⟨A, off, none⟩) l.length cap), (8, .int .i64 (l.length : Int)), (9, .int .i64 (k : Int))] ∧ st.H = H1 ∧ Up H.n H H1 ∧ Gr H1 H.n 5 1 bv (joinL (l.take k)).length (joinL (l.take k))) l.length ⟨0, .slice none 0 0, H, rfl, by omega, rfl, ⟨by kernel_rfl, by kernel_rfl, by kernel_rfl, by kernel_rfl, by kernel_rfl, by kernel_rfl, True.intro⟩, by kernel_rfl, Up.refl H, Gr.nil⟩ ?_
  rintro m st ⟨k, bv, H1, hm, hkl, hal, hkn, hH, hup, hgr⟩
  have nH1 := hup.n
  have gA1 : H1.get A = some ⟨cells, e, ro⟩ := (hup.get A hA).trans gA
  refine aw_kn' [(2, .slice none 0 0), (3, .int .i64 0), (4, bv), (7, .slice (some ⟨A, off, none⟩) l.length cap), (8, .int .i64 (l.length : Int)), (9, .int .i64 (k : Int))] hkn hH fun tm => ?_
  by_cases hk : k < l.length
  · skip
    have hk2 : (k : Int) < (l.length : Int) := by omega
    rw [f21bccacaa_eq]
    refine aw_then ?_
    rw [f21bccacaaa_eq]
    refine aw_reg ?_
    refine aops_go 1 60 (by kernel_rfl) ?_
    refine aops_end (by kernel_rfl) (then_normal ?_)
    rw [f21bccacaac_eq]
    refine aw_then ?_
    rw [f21bccacaaca_eq]
    refine aw_cond (t := true) (see_bool (by kernel_rfl) ((by simp; omega) : ((decide (((k : Nat) : Int) < ((l.length : Nat) : Int)))) = true)) ?_
    refine aw_skip (then_normal ?_)
    rw [f21bccacaacc_eq]
    refine aw_then ?_
    rw [f21bccacaacca_eq]
    refine aw_block ?_
    rw [f21bccacaaccaa_eq]
    refine aw_then ?_
    rw [f21bccacaaccaaa_eq]
    refine aw_reg ?_
    refine aops_val 11 (.pointer (some ⟨A, off + k * 2, none⟩)) H1 (by kernel_rfl) (by kernel_rfl) (by kernel_rfl) ((by kernel_rfl : _ = val (bif (k : Nat).blt l.length then some (.pointer (some ⟨A, off + k * 2, none⟩)) else none) H1).trans (by rw [show (k : Nat).blt l.length = true from (by rw [blt_dec]; simp only [decide_eq_true_eq]; omega)]; rfl)) ?_
    refine aops_val 12 (.agg #[.int .i64 l[k].1, .int .u32 l[k].2]) H1 (by kernel_rfl) (by kernel_rfl) (by kernel_rfl) ((by kernel_rfl : _ = val (aload T20 26 (.pointer (some ⟨A, off + k * 2, none⟩)) H1) H1).trans (val_of ((aload_at gA1).trans (aloadC_rowB (n := 2) (l := inC l[k]) (by kernel_rfl) (by kernel_rfl) rfl (hrow k hk))))) ?_
    obtain ⟨H1_, hH1_⟩ : ∃ x : Heap, x = H1.push ⟨[Value.int .i64 0, .int .u32 0], 26, false⟩ := ⟨_, rfl⟩
    have nH1_ : H1_.n = H1.n + 1 := by rw [hH1_]; rfl
    refine aops_val 6 (.pointer (some ⟨H1.n, 0, none⟩)) H1_ (by kernel_rfl) (by kernel_rfl) (by kernel_rfl) ((by kernel_rfl : _ = some (Res.val (.pointer (some ⟨H1.n, 0, none⟩)), H1.push ⟨[Value.int .i64 0, .int .u32 0], 26, false⟩)).trans (by rw [← hH1_])) ?_
    have gH1_H1_n : H1_.get (H1.n) = some ⟨[Value.int .i64 0, .int .u32 0], 26, false⟩ := by rw [hH1_]; exact (Heap.get_push _ _ _).trans (if_pos rfl)
    obtain ⟨H2_, hH2_⟩ : ∃ x : Heap, x = H1_.put (H1.n) ⟨[Value.int .i64 l[k].1, .int .u32 l[k].2], 26, false⟩ := ⟨_, rfl⟩
    have nH2_ : H2_.n = H1_.n := by rw [hH2_]; rfl
    refine aops_skip H2_ (by kernel_rfl) (by kernel_rfl) (by kernel_rfl) ((by kernel_rfl : _ = skp (astore T20 26 (.pointer (some ⟨H1.n, 0, none⟩)) (.agg #[.int .i64 l[k].1, .int .u32 l[k].2]) H1_)).trans (by rw [astore_to gH1_H1_n (by kernel_rfl), ← hH2_]; rfl)) ?_
    refine aops_end (by kernel_rfl) (then_normal ?_)
    rw [f21bccacaaccaac_eq]
    refine aw_then ?_
    rw [f21bccacaaccaaca_eq]
    refine aw_then ?_
    rw [f21bccacaaccaacaa_eq]
    refine aw_reg ?_
    have gH2_H1_n : H2_.get (H1.n) = some ⟨[Value.int .i64 l[k].1, .int .u32 l[k].2], 26, false⟩ := by rw [hH2_]; exact (Heap.get_put _ _ _ _).trans (if_pos rfl)
    refine aops_val 13 (.agg #[.int .i64 l[k].1, .int .u32 l[k].2]) H2_ (by kernel_rfl) (by kernel_rfl) (by kernel_rfl) ((by kernel_rfl : _ = val (aload T20 26 (.pointer (some ⟨H1.n, 0, none⟩)) H2_) H2_).trans (val_of ((aload_at gH2_H1_n).trans (by kernel_rfl)))) ?_
    refine aops_ask 14 (.bool (rightV (l[k].1) (l[k].2))) 19 #[.agg #[.int .i64 l[k].1, .int .u32 l[k].2]] (by kernel_rfl) (by kernel_rfl) (by kernel_rfl) (by kernel_rfl) rfl ?_
    refine aops_go 1 60 (by kernel_rfl) ?_
    refine aops_end (by kernel_rfl) (then_normal ?_)
    rw [f21bccacaaccaacac_eq]
    rcases Bool.eq_false_or_eq_true (!(rightV (l[k].1) (l[k].2))) with hc1 | hc1
    · skip
      have hrt : rightV l[k].1 l[k].2 = false := by simpa using hc1
      refine aw_cond (t := true) (see_bool (by kernel_rfl) hc1) ?_
      rw [f21bccacaaccaacaca_eq]
      refine aw_then ?_
      rw [f21bccacaaccaacacaa_eq]
      refine aw_reg ?_
      refine aops_go 2 60 (by kernel_rfl) ?_
      refine aops_end (by kernel_rfl) (then_normal ?_)
      refine aw_ret (then_ret (blk_ret (then_ret (then_ret (blk_ret (then_ret (bodyQ_ret_to (.tuple #[.slice none 0 0, .int .i64 12]) H2_ (by kernel_rfl) (by kernel_rfl) ?_)))))))
      exact ⟨fun h => (by rw [allR_not hk hrt] at h; cases h), fun _ => rfl, hup.trans (show Up H.n H1 H2_ from ⟨by omega, fun b hb => by rw [hH2_, Heap.get_put, if_neg (by omega), hH1_, Heap.get_push, if_neg (by omega)]⟩)⟩
    · skip
      have hrt : rightV l[k].1 l[k].2 = true := by simpa using hc1
      refine aw_cond (t := false) (see_bool (by kernel_rfl) hc1) ?_
      refine aw_skip (then_normal ?_)
      rw [f21bccacaaccaacc_eq]
      refine aw_reg ?_
      refine aops_go 1 60 (by kernel_rfl) ?_
      refine aops_val 17 (.agg #[.int .i64 l[k].1, .int .u32 l[k].2]) H2_ (by kernel_rfl) (by kernel_rfl) (by kernel_rfl) ((by kernel_rfl : _ = val (aload T20 26 (.pointer (some ⟨H1.n, 0, none⟩)) H2_) H2_).trans (val_of ((aload_at gH2_H1_n).trans (by kernel_rfl)))) ?_
      refine aops_call_to 18 40 #[bv, .agg #[.int .i64 l[k].1, .int .u32 l[k].2]] H2_ (by kernel_rfl) (by kernel_rfl) (fun v => (by kernel_rfl)) (by kernel_rfl) (by kernel_rfl) (put_gr (hgr.keep (lo' := H.n) (by omega) (fun b hb1 hb2 => by rw [hH2_, Heap.get_put, if_neg (by omega), hH1_, Heap.get_push, if_neg (by omega)])) (by omega) (by have := joinL_le (l.take k); have := List.length_take_le k l; omega) (right_size hrt)) ?_
      rintro bv2 H3_ ⟨hgr2, uH3_⟩
      have nH3_ := uH3_.n
      refine aops_go 1 60 (by kernel_rfl) ?_
      refine aops_end (by kernel_rfl) (blk_normal (then_normal ?_))
      rw [f21bccacaaccc_eq]
      refine aw_reg ?_
      refine aops_go 1 60 (by kernel_rfl) ?_
      refine aops_see 19 (.int .i64 ((k + 1 : Nat) : Int)) (see_int (x := (IntKind.i64.wrap (((k : Nat) : Int) + 1))) (by kernel_rfl) (w64 (by omega) (by omega) (by omega))) ?_
      refine aops_go 1 60 (by kernel_rfl) ?_
      refine aops_end (by kernel_rfl) (then_normal ⟨l.length - (k + 1), by omega, k + 1, bv2, H3_, rfl, by omega, allR_take hk hal hrt, ⟨by kernel_rfl, by kernel_rfl, by kernel_rfl, by kernel_rfl, by kernel_rfl, by kernel_rfl, True.intro⟩, by kernel_rfl, ?_, ?_⟩)
      · refine hup.trans ((show Up H.n H1 H2_ from ⟨by omega, fun b hb => by rw [hH2_, Heap.get_put, if_neg (by omega), hH1_, Heap.get_push, if_neg (by omega)]⟩).trans (uH3_.mono (by omega)))
      · rw [joinL_take hk, List.length_append]; exact hgr2
  · skip
    obtain rfl : k = l.length := by omega
    rw [List.take_length] at hal hgr
    rw [f21bccacaa_eq]
    refine aw_then ?_
    rw [f21bccacaaa_eq]
    refine aw_reg ?_
    refine aops_go 1 60 (by kernel_rfl) ?_
    refine aops_end (by kernel_rfl) (then_normal ?_)
    rw [f21bccacaac_eq]
    refine aw_then ?_
    rw [f21bccacaaca_eq]
    refine aw_cond (t := false) (see_bool (by kernel_rfl) ((by simp) : ((decide (((l.length : Nat) : Int) < ((l.length : Nat) : Int)))) = false)) ?_
    refine aw_exit (then_exit (then_exit (blk_hit (then_normal ?_))))
    rw [f21bccc_eq]
    refine aw_then ?_
    rw [f21bccca_eq]
    refine aw_reg ?_
    refine aops_go 3 60 (by kernel_rfl) ?_
    refine aops_end (by kernel_rfl) (then_normal ?_)
    refine aw_ret (bodyQ_ret_to (.tuple #[bv, .int .i64 0]) H1 (by kernel_rfl) (by kernel_rfl) ?_)
    exact ⟨fun _ => ⟨bv, rfl, hgr⟩, fun h => (by rw [hal] at h; cases h), hup⟩
theorem join_nil {H : Heap} : ACall Tryd.prog T20 21 #[.slice none 0 0] H fun r H' => (allR [] = true → ∃ bv, r = .tuple #[bv, .int .i64 0] ∧ Gr H' H.n 5 1 bv (joinL []).length (joinL [])) ∧ (allR [] = false → r = .tuple #[.slice none 0 0, .int .i64 12]) ∧ Up H.n H H' := by
  refine acall_of' 21 (initTm 0 #[.slice none 0 0]) rfl f21_fn f21_body rfl rfl ?_
  rw [f21b_eq]
  refine aw_then ?_
  rw [f21ba_eq]
  refine aw_reg ?_
  refine aops_go 2 60 (by kernel_rfl) ?_
  refine aops_end (by kernel_rfl) (then_normal ?_)
  rw [f21bc_eq]
  refine aw_then ?_
  rw [f21bca_eq]
  refine aw_reg ?_
  refine aops_go 1 60 (by kernel_rfl) ?_
  refine aops_end (by kernel_rfl) (then_normal ?_)
  rw [f21bcc_eq]
  refine aw_then ?_
  rw [f21bcca_eq]
  refine aw_then ?_
  rw [f21bccaa_eq]
  refine aw_reg ?_
  refine aops_go 3 60 (by kernel_rfl) ?_
  refine aops_end (by kernel_rfl) (then_normal ?_)
  rw [f21bccac_eq]
  refine aw_block ?_
  rw [f21bccaca_eq]
  refine aw_loop_k fun K1_ hK1_ => ?_
  rw [f21bccacaa_eq]
  refine aw_then ?_
  rw [f21bccacaaa_eq]
  refine aw_reg ?_
  refine aops_go 1 60 (by kernel_rfl) ?_
  refine aops_end (by kernel_rfl) (then_normal ?_)
  rw [f21bccacaac_eq]
  refine aw_then ?_
  rw [f21bccacaaca_eq]
  refine aw_cond (t := false) (by kernel_rfl) ?_
  refine aw_exit (then_exit (then_exit (blk_hit (then_normal ?_))))
  rw [f21bccc_eq]
  refine aw_then ?_
  rw [f21bccca_eq]
  refine aw_reg ?_
  refine aops_go 3 60 (by kernel_rfl) ?_
  refine aops_end (by kernel_rfl) (then_normal ?_)
  refine aw_ret (bodyQ_ret_to (.tuple #[.slice none 0 0, .int .i64 0]) H (by kernel_rfl) (by kernel_rfl) ?_)
  exact ⟨fun _ => ⟨.slice none 0 0, rfl, Gr.nil⟩, fun h => (by cases h), Up.refl H⟩
/-- Join. -/
theorem join_any {H : Heap} {v : Value} {l : List In} (h : Ins H v l) (hll : l.length ≤ 100000000) : ACall Tryd.prog T20 21 #[v] H fun r H' => (allR l = true → ∃ bv, r = .tuple #[bv, .int .i64 0] ∧ Gr H' H.n 5 1 bv (joinL l).length (joinL l)) ∧ (allR l = false → r = .tuple #[.slice none 0 0, .int .i64 12]) ∧ Up H.n H H' := by
  rcases h.at_ with ⟨rfl, rfl⟩ | ⟨A, off, cap, cells, e, ro, rfl, gA, hA, hrow⟩
  · exact join_nil
  · exact join_own gA hA hrow hll
end Gc
end Go.Proofs.YtpfmmckbfejfnaaDoor
