/- Chapter 4: a machine made, its registers and words read and set. -/
import Derived.Test.YtjhijpfbokklcaaPi
namespace Go.Proofs.Ytjhijpfbokklcaa
open Go Go.Ev Go.RowKit
set_option linter.unusedVariables false
set_option linter.unusedSimpArgs false
set_option maxRecDepth 100000
namespace Hm
theorem MA.keep {H H' : Heap} {ty : TypeId} {M W : Nat} {cp : Value} {m : Mach} (h : MA H ty M W cp m) (hn : H.n ≤ H'.n) (hg : ∀ b, b < H.n → H'.get b = H.get b) : MA H' ty M W cp m := by
  refine ⟨by rw [hg M h.mn]; exact h.hM, by rw [hg W h.wn]; exact h.hW, h.hC.keep (lo' := 0) hn (fun b _ hb => hg b hb), h.hT, h.r16, h.wl, h.cl, Nat.lt_of_lt_of_le h.mn hn, Nat.lt_of_lt_of_le h.wn hn, h.pc0, h.pc1, h.rr, h.ww, h.ii⟩
/-- Another machine is changed: this one is as it was. -/
theorem MA.beside {H H' : Heap} {ty ty' : TypeId} {M W M' W' : Nat} {cp cp' : Value} {m m' : Mach} (h : MA H ty M W cp m) (h' : MA H ty' M' W' cp' m') (hM : M ≠ M') (hW : W ≠ W') (f : Fr2 H H' M' W') : MA H' ty M W cp m := by
  have e1 : M ≠ W' := fun e => by
    have h1 := h.hM; have h2 := h'.hW; have h3 := h.hT
    rw [e, h2] at h1; injection h1 with h1; injection h1 with _ h1 _; subst h1; exact absurd h3 (by decide)
  have e2 : W ≠ M' := fun e => by
    have h1 := h.hW; have h2 := h'.hM; have h3 := h'.hT
    rw [e, h2] at h1; injection h1 with h1; injection h1 with _ h1 _; subst h1; exact absurd h3 (by decide)
  refine ⟨by rw [f.get M h.mn hM e1]; exact h.hM, by rw [f.get W h.wn e2 hW]; exact h.hW, ?_, h.hT, h.r16, h.wl, h.cl, Nat.lt_of_lt_of_le h.mn f.n, Nat.lt_of_lt_of_le h.wn f.n, h.pc0, h.pc1, h.rr, h.ww, h.ii⟩
  refine ⟨h.hC.size, ?_⟩
  rcases h.hC.at_ with e | ⟨B, b1, b2, b3, b4⟩
  · exact .inl e
  · refine .inr ⟨B, b1, ?_, Nat.lt_of_lt_of_le b3 f.n, b4⟩
    rw [f.get B b3 (fun e => ?_) (fun e => ?_)]
    · exact b2
    · have hm := h'.hM; have ht := h'.hT
      rw [← e, b2] at hm
      injection hm with hm; injection hm with _ hm _
      subst hm; exact absurd ht (by decide)
    · have hm := h'.hW
      rw [← e, b2] at hm
      injection hm with hm; injection hm with _ hm _
      cases hm
/-- The machine is of another kind: its block is another one. -/
theorem MA.ne {H : Heap} {ty ty' : TypeId} {M W M' W' : Nat} {cp cp' : Value} {m m' : Mach} (h : MA H ty M W cp m) (h' : MA H ty' M' W' cp' m') (ht : ty ≠ ty') : M ≠ M' := fun e => by
  have h1 := h.hM; have h2 := h'.hM
  rw [e, h2] at h1; injection h1 with h1; injection h1 with _ h1 _; exact ht h1.symm
def new (n : Nat) : Mach := ⟨List.replicate 16 0, List.replicate n 0, [], 0⟩
theorem amake_words {T : Tab} {t e : TypeId} {H : Heap} (n : Nat) (hu : T.under t = some (.slice e)) (hb : T.bytes e = some 4) (hs : T.size e = some 1) (hz : T.zero e = some (.int .u32 0)) (hn : n ≤ 65536) :
    amakeSlice T t (.int .i64 (Int.ofNat n)) (.int .i64 (Int.ofNat n)) H = some (.slice (some ⟨H.n, 0, none⟩) n n, H.push ⟨List.replicate n (.int .u32 0), e, false⟩) := by
  have e1 : n.ble n = true := by rw [ble_dec]; simp
  have e2 : (4 * n).ble 140737488355328 = true := by rw [ble_dec]; simp; omega
  have e3 : n.ble 4611686018427387904 = true := by rw [ble_dec]; simp; omega
  have e4 : closed (.int .u32 0) = true := rfl
  unfold amakeSlice
  simp only [hu, nats, hb, hs, hz, e1, e2, e3, e4, Bool.and_self, cond_true]
  rfl
theorem new_ma {H : Heap} {ty : TypeId} {M W n : Nat} (hM : H.get M = some ⟨List.replicate 16 (Value.int .u64 0) ++ [.slice (some ⟨W, 0, none⟩) n n, .slice none 0 0, .int .i64 0], ty, false⟩) (hW : H.get W = some ⟨List.replicate n (.int .u32 0), 30, false⟩) (ht : 49 ≤ ty) (hn : n ≤ 65536) (mn : M < H.n) (wn : W < H.n) : MA H ty M W (.slice none 0 0) (new n) := by
  refine ⟨?_, ?_, .nil, ht, rfl, by simpa [new] using hn, by simp [new], mn, wn, by simp [new], by simp [new], fun x hx => ?_, fun x hx => ?_, fun i hi => by simp [new] at hi⟩
  · rw [hM]; simp [new, macC]
  · rw [hW]; simp [new]
  · rw [(List.mem_replicate.1 hx).2]; omega
  · rw [(List.mem_replicate.1 hx).2]; omega
noncomputable def f8b : Code := Try.f8.body.getD .skip
theorem f8_body : Try.f8.body = some f8b := by kernel_rfl
theorem f8_fn : T8.fn 8 = some Try.f8 := by kernel_rfl
noncomputable def f22b : Code := Try.f22.body.getD .skip
theorem f22_body : Try.f22.body = some f22b := by kernel_rfl
theorem f22_fn : T8.fn 22 = some Try.f22 := by kernel_rfl
theorem new_any {H : Heap} {n : Nat} (h1 : 1 ≤ n) (h2 : n ≤ 65536) : ACall Try.prog T8 8 #[.int .i64 ((n : Nat) : Int)] H fun r H' => ∃ M W, r = .tuple #[.pointer (some ⟨M, 0, none⟩), .int .i64 0] ∧ MA H' 62 M W (.slice none 0 0) (new n) ∧ H.n ≤ M ∧ H.n ≤ W ∧ H.n < H'.n ∧ Up H.n H H' := by
  refine acall_cf 14 (initTm 0 #[.int .i64 ((n : Nat) : Int)]) rfl f8_fn f8_body rfl rfl ?_
  refine cf_go 11 ?_
  refine cf_see 5 (.bool false) (see_bool (by kernel_rfl) ((decide_eq_false (by omega)) : ((decide (((n : Nat) : Int) < 1))) = false)) ?_
  refine cf_go 3 ?_
  refine cf_see 8 (.bool false) (see_bool (by kernel_rfl) ((decide_eq_false (by omega)) : ((decide (((n : Nat) : Int) > 65536))) = false)) ?_
  refine cf_go 9 ?_
  obtain ⟨H1_, hH1_⟩ : ∃ x : Heap, x = H.push ⟨List.replicate n (.int .u32 0), 30, false⟩ := ⟨_, rfl⟩
  have nH1_ : H1_.n = H.n + 1 := by rw [hH1_]; rfl
  refine cf_val 11 (.slice (some ⟨H.n, 0, none⟩) n n) H1_ (by kernel_rfl) ((by kernel_rfl : _ = val2 (amakeSlice T8 56 (.int .i64 (Int.ofNat n)) (.int .i64 (Int.ofNat n)) H)).trans (by rw [amake_words n (by kernel_rfl) (by kernel_rfl) (by kernel_rfl) (by kernel_rfl) (by omega), ← hH1_]; rfl)) ?_
  refine cf_go 1 ?_
  obtain ⟨H2_, hH2_⟩ : ∃ x : Heap, x = H1_.push ⟨[Value.int .u64 0, .int .u64 0, .int .u64 0, .int .u64 0, .int .u64 0, .int .u64 0, .int .u64 0, .int .u64 0, .int .u64 0, .int .u64 0, .int .u64 0, .int .u64 0, .int .u64 0, .int .u64 0, .int .u64 0, .int .u64 0, .slice (some ⟨H.n, 0, none⟩) n n, .slice none 0 0, .int .i64 0], 62, false⟩ := ⟨_, rfl⟩
  have nH2_ : H2_.n = H1_.n + 1 := by rw [hH2_]; rfl
  refine cf_val 13 (.pointer (some ⟨H1_.n, 0, none⟩)) H2_ (by kernel_rfl) ((by kernel_rfl : _ = some (Res.val (.pointer (some ⟨H1_.n, 0, none⟩)), H1_.push ⟨[Value.int .u64 0, .int .u64 0, .int .u64 0, .int .u64 0, .int .u64 0, .int .u64 0, .int .u64 0, .int .u64 0, .int .u64 0, .int .u64 0, .int .u64 0, .int .u64 0, .int .u64 0, .int .u64 0, .int .u64 0, .int .u64 0, .slice (some ⟨H.n, 0, none⟩) n n, .slice none 0 0, .int .i64 0], 62, false⟩)).trans (by rw [← hH2_])) ?_
  refine cf_go 5 ?_
  refine cf_end (.tuple #[.pointer (some ⟨H1_.n, 0, none⟩), .int .i64 0]) H2_ (by kernel_rfl) (by kernel_rfl) (by kernel_rfl) ?_
  have gH2_H1__n : H2_.get (H1_.n) = some ⟨[Value.int .u64 0, .int .u64 0, .int .u64 0, .int .u64 0, .int .u64 0, .int .u64 0, .int .u64 0, .int .u64 0, .int .u64 0, .int .u64 0, .int .u64 0, .int .u64 0, .int .u64 0, .int .u64 0, .int .u64 0, .int .u64 0, .slice (some ⟨H.n, 0, none⟩) n n, .slice none 0 0, .int .i64 0], 62, false⟩ := by rw [hH2_]; exact (Heap.get_push _ _ _).trans (if_pos rfl)
  have gH2_H_n : H2_.get (H.n) = some ⟨(List.replicate n (.int .u32 0)), 30, false⟩ := by rw [hH2_, Heap.get_push, if_neg (by omega)]; rw [hH1_]; exact (Heap.get_push _ _ _).trans (if_pos rfl)
  exact ⟨H1_.n, H.n, rfl, new_ma gH2_H1__n gH2_H_n (by decide) (by omega) (by omega) (by omega), by omega, by omega, by omega, ⟨by omega, fun b hb => by rw [hH2_, Heap.get_push, if_neg (by omega), hH1_, Heap.get_push, if_neg (by omega)]⟩⟩
theorem rnew_any {H : Heap} {n : Nat} (h1 : 1 ≤ n) (h2 : n ≤ 65536) : ACall Try.prog T8 22 #[.int .i64 ((n : Nat) : Int)] H fun r H' => ∃ M W, r = .pointer (some ⟨M, 0, none⟩) ∧ MA H' 58 M W (.slice none 0 0) (new n) ∧ H.n ≤ M ∧ H.n ≤ W ∧ H.n < H'.n ∧ Up H.n H H' := by
  refine acall_cf 7 (initTm 0 #[.int .i64 ((n : Nat) : Int)]) rfl f22_fn f22_body rfl rfl ?_
  refine cf_go 8 ?_
  obtain ⟨H1_, hH1_⟩ : ∃ x : Heap, x = H.push ⟨List.replicate n (.int .u32 0), 30, false⟩ := ⟨_, rfl⟩
  have nH1_ : H1_.n = H.n + 1 := by rw [hH1_]; rfl
  refine cf_val 4 (.slice (some ⟨H.n, 0, none⟩) n n) H1_ (by kernel_rfl) ((by kernel_rfl : _ = val2 (amakeSlice T8 56 (.int .i64 (Int.ofNat n)) (.int .i64 (Int.ofNat n)) H)).trans (by rw [amake_words n (by kernel_rfl) (by kernel_rfl) (by kernel_rfl) (by kernel_rfl) (by omega), ← hH1_]; rfl)) ?_
  refine cf_go 1 ?_
  obtain ⟨H2_, hH2_⟩ : ∃ x : Heap, x = H1_.push ⟨[Value.int .u64 0, .int .u64 0, .int .u64 0, .int .u64 0, .int .u64 0, .int .u64 0, .int .u64 0, .int .u64 0, .int .u64 0, .int .u64 0, .int .u64 0, .int .u64 0, .int .u64 0, .int .u64 0, .int .u64 0, .int .u64 0, .slice (some ⟨H.n, 0, none⟩) n n, .slice none 0 0, .int .i64 0], 58, false⟩ := ⟨_, rfl⟩
  have nH2_ : H2_.n = H1_.n + 1 := by rw [hH2_]; rfl
  refine cf_val 6 (.pointer (some ⟨H1_.n, 0, none⟩)) H2_ (by kernel_rfl) ((by kernel_rfl : _ = some (Res.val (.pointer (some ⟨H1_.n, 0, none⟩)), H1_.push ⟨[Value.int .u64 0, .int .u64 0, .int .u64 0, .int .u64 0, .int .u64 0, .int .u64 0, .int .u64 0, .int .u64 0, .int .u64 0, .int .u64 0, .int .u64 0, .int .u64 0, .int .u64 0, .int .u64 0, .int .u64 0, .int .u64 0, .slice (some ⟨H.n, 0, none⟩) n n, .slice none 0 0, .int .i64 0], 58, false⟩)).trans (by rw [← hH2_])) ?_
  refine cf_go 4 ?_
  refine cf_end (.pointer (some ⟨H1_.n, 0, none⟩)) H2_ (by kernel_rfl) (by kernel_rfl) (by kernel_rfl) ?_
  have gH2_H1__n : H2_.get (H1_.n) = some ⟨[Value.int .u64 0, .int .u64 0, .int .u64 0, .int .u64 0, .int .u64 0, .int .u64 0, .int .u64 0, .int .u64 0, .int .u64 0, .int .u64 0, .int .u64 0, .int .u64 0, .int .u64 0, .int .u64 0, .int .u64 0, .int .u64 0, .slice (some ⟨H.n, 0, none⟩) n n, .slice none 0 0, .int .i64 0], 58, false⟩ := by rw [hH2_]; exact (Heap.get_push _ _ _).trans (if_pos rfl)
  have gH2_H_n : H2_.get (H.n) = some ⟨(List.replicate n (.int .u32 0)), 30, false⟩ := by rw [hH2_, Heap.get_push, if_neg (by omega)]; rw [hH1_]; exact (Heap.get_push _ _ _).trans (if_pos rfl)
  exact ⟨H1_.n, H.n, rfl, new_ma gH2_H1__n gH2_H_n (by decide) (by omega) (by omega) (by omega), by omega, by omega, by omega, ⟨by omega, fun b hb => by rw [hH2_, Heap.get_push, if_neg (by omega), hH1_, Heap.get_push, if_neg (by omega)]⟩⟩
noncomputable def f17b : Code := Try.f17.body.getD .skip
theorem f17_body : Try.f17.body = some f17b := by kernel_rfl
theorem f17_fn : T8.fn 17 = some Try.f17 := by kernel_rfl
noncomputable def f18b : Code := Try.f18.body.getD .skip
theorem f18_body : Try.f18.body = some f18b := by kernel_rfl
theorem f18_fn : T8.fn 18 = some Try.f18 := by kernel_rfl
noncomputable def f19b : Code := Try.f19.body.getD .skip
theorem f19_body : Try.f19.body = some f19b := by kernel_rfl
theorem f19_fn : T8.fn 19 = some Try.f19 := by kernel_rfl
noncomputable def f24b : Code := Try.f24.body.getD .skip
theorem f24_body : Try.f24.body = some f24b := by kernel_rfl
theorem f24_fn : T8.fn 24 = some Try.f24 := by kernel_rfl
theorem setreg_raw {H : Heap} {M W n : Nat} {R Wd : List Int} {cp : Value} {pc : Int} (gM : H.get M = some ⟨macC R W n cp pc, 62, false⟩) (gW : H.get W = some ⟨Wd.map (Value.int .u32), 30, false⟩) (hR : R.length = 16) (hMW : M ≠ W) (hM : M < H.n) (hW : W < H.n) (hn : n ≤ 65536) (hWl : Wd.length = n) {k : Nat} {v : Int} (hk : k < 16) : ACall Try.prog T8 17 #[.pointer (some ⟨M, 0, none⟩), .int .i64 ((k : Nat) : Int), .int .u64 v] H fun r H' => r = .bool true ∧ MTo H H' 62 M W n cp (R.set k v) Wd pc := by
  refine acall_cf 19 (initTm 0 #[.pointer (some ⟨M, 0, none⟩), .int .i64 ((k : Nat) : Int), .int .u64 v]) rfl f17_fn f17_body rfl rfl ?_
  refine cf_go 10 ?_
  refine cf_see 8 (.bool false) (see_bool (by kernel_rfl) ((decide_eq_false (by omega)) : ((decide (((k : Nat) : Int) < 0))) = false)) ?_
  refine cf_go 3 ?_
  refine cf_see 11 (.bool false) (see_bool (by kernel_rfl) ((decide_eq_false (by omega)) : ((decide (((k : Nat) : Int) ≥ 16))) = false)) ?_
  refine cf_go 13 ?_
  refine cf_val 18 (.pointer (some ⟨M, 0 + k * 1, none⟩)) H (by kernel_rfl) ((by kernel_rfl : _ = val (bif (k : Nat).blt 16 then some (.pointer (some ⟨M, 0 + k * 1, none⟩)) else none) H).trans (by rw [show (k : Nat).blt 16 = true from (by rw [blt_dec]; simp only [decide_eq_true_eq]; omega)]; rfl)) ?_
  obtain ⟨H1_, hH1_⟩ : ∃ x : Heap, x = H.put (M) ⟨((R.set k v).map (Value.int .u64) ++ [Value.slice (some ⟨W, 0, none⟩) n n, cp, .int .i64 pc]), 62, false⟩ := ⟨_, rfl⟩
  have nH1_ : H1_.n = H.n := by rw [hH1_]; rfl
  refine cf_skip H1_ (by kernel_rfl) ((by kernel_rfl : _ = skp (astore T8 42 (.pointer (some ⟨M, 0 + k * 1, none⟩)) (.int .u64 v) H)).trans (by rw [astore_to gM ((astoreC_one (by kernel_rfl) rfl rfl (by first | (rw [ml hR]; omega) | (unfold macC; rw [ml hR]; omega))).trans (congrArg some (ms_r hR (by omega)))), ← hH1_]; rfl)) ?_
  refine cf_go 8 ?_
  refine cf_end (.bool true) H1_ (by kernel_rfl) (by kernel_rfl) (by kernel_rfl) ?_
  have gH1_M : H1_.get (M) = some ⟨((R.set k v).map (Value.int .u64) ++ [Value.slice (some ⟨W, 0, none⟩) n n, cp, .int .i64 pc]), 62, false⟩ := by rw [hH1_]; exact (Heap.get_put _ _ _ _).trans (if_pos rfl)
  have gH1_W : H1_.get (W) = some ⟨(Wd.map (Value.int .u32)), 30, false⟩ := by rw [hH1_, Heap.get_put, if_neg (by omega)]; exact gW
  exact ⟨rfl, by omega, gH1_M, gH1_W, fun b hb h1 h2 => by rw [hH1_, Heap.get_put, if_neg (by omega)]⟩
theorem setword_raw {H : Heap} {M W n : Nat} {R Wd : List Int} {cp : Value} {pc : Int} (gM : H.get M = some ⟨macC R W n cp pc, 62, false⟩) (gW : H.get W = some ⟨Wd.map (Value.int .u32), 30, false⟩) (hR : R.length = 16) (hMW : M ≠ W) (hM : M < H.n) (hW : W < H.n) (hn : n ≤ 65536) (hWl : Wd.length = n) {k : Nat} {v : Int} (hk : k < n) : ACall Try.prog T8 24 #[.pointer (some ⟨M, 0, none⟩), .int .i64 ((k : Nat) : Int), .int .u32 v] H fun r H' => r = .bool true ∧ MTo H H' 62 M W n cp R (Wd.set k v) pc := by
  refine acall_cf 25 (initTm 0 #[.pointer (some ⟨M, 0, none⟩), .int .i64 ((k : Nat) : Int), .int .u32 v]) rfl f24_fn f24_body rfl rfl ?_
  refine cf_go 10 ?_
  refine cf_see 8 (.bool false) (see_bool (by kernel_rfl) ((decide_eq_false (by omega)) : ((decide (((k : Nat) : Int) < 0))) = false)) ?_
  refine cf_go 5 ?_
  refine cf_val 14 (.slice (some ⟨W, 0, none⟩) n n) H (by kernel_rfl) ((by kernel_rfl : _ = val (aload T8 56 (.pointer (some ⟨M, 16, none⟩)) H) H).trans (val_of ((aload_at gM).trans (aloadC_cellB (n := 1) (by kernel_rfl) (by kernel_rfl) (mc_16 hR))))) ?_
  refine cf_go 2 ?_
  refine cf_see 16 (.bool false) (see_bool (by kernel_rfl) ((decide_eq_false (by omega)) : ((decide (((k : Nat) : Int) ≥ ((n : Nat) : Int)))) = false)) ?_
  refine cf_go 11 ?_
  refine cf_val 21 (.slice (some ⟨W, 0, none⟩) n n) H (by kernel_rfl) ((by kernel_rfl : _ = val (aload T8 56 (.pointer (some ⟨M, 16, none⟩)) H) H).trans (val_of ((aload_at gM).trans (aloadC_cellB (n := 1) (by kernel_rfl) (by kernel_rfl) (mc_16 hR))))) ?_
  refine cf_go 2 ?_
  refine cf_val 24 (.pointer (some ⟨W, 0 + k * 1, none⟩)) H (by kernel_rfl) ((by kernel_rfl : _ = val (bif (k : Nat).blt n then some (.pointer (some ⟨W, 0 + k * 1, none⟩)) else none) H).trans (by rw [show (k : Nat).blt n = true from (by rw [blt_dec]; simp only [decide_eq_true_eq]; omega)]; rfl)) ?_
  obtain ⟨H1_, hH1_⟩ : ∃ x : Heap, x = H.put (W) ⟨((Wd.set k v).map (Value.int .u32)), 30, false⟩ := ⟨_, rfl⟩
  have nH1_ : H1_.n = H.n := by rw [hH1_]; rfl
  refine cf_skip H1_ (by kernel_rfl) ((by kernel_rfl : _ = skp (astore T8 30 (.pointer (some ⟨W, 0 + k * 1, none⟩)) (.int .u32 v) H)).trans (by rw [astore_to gW ((astoreC_one (by kernel_rfl) rfl rfl (by rw [List.length_map]; omega)).trans (congrArg some (mw_s _ _))), ← hH1_]; rfl)) ?_
  refine cf_go 8 ?_
  refine cf_end (.bool true) H1_ (by kernel_rfl) (by kernel_rfl) (by kernel_rfl) ?_
  have gH1_M : H1_.get (M) = some ⟨(R.map (Value.int .u64) ++ [Value.slice (some ⟨W, 0, none⟩) n n, cp, .int .i64 pc]), 62, false⟩ := by rw [hH1_, Heap.get_put, if_neg (by omega)]; exact gM
  have gH1_W : H1_.get (W) = some ⟨((Wd.set k v).map (Value.int .u32)), 30, false⟩ := by rw [hH1_]; exact (Heap.get_put _ _ _ _).trans (if_pos rfl)
  exact ⟨rfl, by omega, gH1_M, gH1_W, fun b hb h1 h2 => by rw [hH1_, Heap.get_put, if_neg (by omega)]⟩
theorem reg_raw {H : Heap} {M W n : Nat} {R Wd : List Int} {cp : Value} {pc : Int} (gM : H.get M = some ⟨macC R W n cp pc, 62, false⟩) (gW : H.get W = some ⟨Wd.map (Value.int .u32), 30, false⟩) (hR : R.length = 16) (hMW : M ≠ W) (hM : M < H.n) (hW : W < H.n) (hn : n ≤ 65536) (hWl : Wd.length = n) {k : Nat} {x : Int} (hk : k < 16) (ex : R[k]? = some x) : ACall Try.prog T8 18 #[.pointer (some ⟨M, 0, none⟩), .int .i64 ((k : Nat) : Int)] H fun r H' => r = .int .u64 x ∧ H = H' := by
  refine acall_cf 17 (initTm 0 #[.pointer (some ⟨M, 0, none⟩), .int .i64 ((k : Nat) : Int)]) rfl f18_fn f18_body rfl rfl ?_
  refine cf_go 10 ?_
  refine cf_see 6 (.bool false) (see_bool (by kernel_rfl) ((decide_eq_false (by omega)) : ((decide (((k : Nat) : Int) < 0))) = false)) ?_
  refine cf_go 3 ?_
  refine cf_see 9 (.bool false) (see_bool (by kernel_rfl) ((decide_eq_false (by omega)) : ((decide (((k : Nat) : Int) ≥ 16))) = false)) ?_
  refine cf_go 12 ?_
  refine cf_val 15 (.pointer (some ⟨M, 0 + k * 1, none⟩)) H (by kernel_rfl) ((by kernel_rfl : _ = val (bif (k : Nat).blt 16 then some (.pointer (some ⟨M, 0 + k * 1, none⟩)) else none) H).trans (by rw [show (k : Nat).blt 16 = true from (by rw [blt_dec]; simp only [decide_eq_true_eq]; omega)]; rfl)) ?_
  refine cf_val 16 (.int .u64 x) H (by kernel_rfl) ((by kernel_rfl : _ = val (aload T8 42 (.pointer (some ⟨M, 0 + k * 1, none⟩)) H) H).trans (val_of ((aload_at gM).trans (aloadC_cellB (n := 1) (by kernel_rfl) (by kernel_rfl) (mc_r ex))))) ?_
  refine cf_go 4 ?_
  refine cf_end (.int .u64 x) H (by kernel_rfl) (by kernel_rfl) (by kernel_rfl) ?_
  exact ⟨rfl, rfl⟩
theorem reg_lo {H : Heap} {M W n : Nat} {R Wd : List Int} {cp : Value} {pc : Int} (gM : H.get M = some ⟨macC R W n cp pc, 62, false⟩) (gW : H.get W = some ⟨Wd.map (Value.int .u32), 30, false⟩) (hR : R.length = 16) (hMW : M ≠ W) (hM : M < H.n) (hW : W < H.n) (hn : n ≤ 65536) (hWl : Wd.length = n) {i : Int} (hi : i < 0) : ACall Try.prog T8 18 #[.pointer (some ⟨M, 0, none⟩), .int .i64 i] H fun r H' => r = .int .u64 0 ∧ H = H' := by
  refine acall_cf 17 (initTm 0 #[.pointer (some ⟨M, 0, none⟩), .int .i64 i]) rfl f18_fn f18_body rfl rfl ?_
  refine cf_go 10 ?_
  refine cf_see 6 (.bool true) (see_bool (by kernel_rfl) ((decide_eq_true (by omega)) : ((decide ((i : Int) < 0))) = true)) ?_
  refine cf_go 14 ?_
  refine cf_end (.int .u64 0) H (by kernel_rfl) (by kernel_rfl) (by kernel_rfl) ?_
  exact ⟨rfl, rfl⟩
theorem reg_hi {H : Heap} {M W n : Nat} {R Wd : List Int} {cp : Value} {pc : Int} (gM : H.get M = some ⟨macC R W n cp pc, 62, false⟩) (gW : H.get W = some ⟨Wd.map (Value.int .u32), 30, false⟩) (hR : R.length = 16) (hMW : M ≠ W) (hM : M < H.n) (hW : W < H.n) (hn : n ≤ 65536) (hWl : Wd.length = n) {i : Int} (hi : 16 ≤ i) : ACall Try.prog T8 18 #[.pointer (some ⟨M, 0, none⟩), .int .i64 i] H fun r H' => r = .int .u64 0 ∧ H = H' := by
  refine acall_cf 17 (initTm 0 #[.pointer (some ⟨M, 0, none⟩), .int .i64 i]) rfl f18_fn f18_body rfl rfl ?_
  refine cf_go 10 ?_
  refine cf_see 6 (.bool false) (see_bool (by kernel_rfl) ((decide_eq_false (by omega)) : ((decide ((i : Int) < 0))) = false)) ?_
  refine cf_go 3 ?_
  refine cf_see 9 (.bool true) (see_bool (by kernel_rfl) ((decide_eq_true (by omega)) : ((decide ((i : Int) ≥ 16))) = true)) ?_
  refine cf_go 11 ?_
  refine cf_end (.int .u64 0) H (by kernel_rfl) (by kernel_rfl) (by kernel_rfl) ?_
  exact ⟨rfl, rfl⟩
theorem word_raw {H : Heap} {M W n : Nat} {R Wd : List Int} {cp : Value} {pc : Int} (gM : H.get M = some ⟨macC R W n cp pc, 62, false⟩) (gW : H.get W = some ⟨Wd.map (Value.int .u32), 30, false⟩) (hR : R.length = 16) (hMW : M ≠ W) (hM : M < H.n) (hW : W < H.n) (hn : n ≤ 65536) (hWl : Wd.length = n) {k : Nat} {x : Int} (hk : k < n) (ex : Wd[k]? = some x) : ACall Try.prog T8 19 #[.pointer (some ⟨M, 0, none⟩), .int .i64 ((k : Nat) : Int)] H fun r H' => r = .int .u32 x ∧ H = H' := by
  refine acall_cf 23 (initTm 0 #[.pointer (some ⟨M, 0, none⟩), .int .i64 ((k : Nat) : Int)]) rfl f19_fn f19_body rfl rfl ?_
  refine cf_go 10 ?_
  refine cf_see 6 (.bool false) (see_bool (by kernel_rfl) ((decide_eq_false (by omega)) : ((decide (((k : Nat) : Int) < 0))) = false)) ?_
  refine cf_go 5 ?_
  refine cf_val 12 (.slice (some ⟨W, 0, none⟩) n n) H (by kernel_rfl) ((by kernel_rfl : _ = val (aload T8 56 (.pointer (some ⟨M, 16, none⟩)) H) H).trans (val_of ((aload_at gM).trans (aloadC_cellB (n := 1) (by kernel_rfl) (by kernel_rfl) (mc_16 hR))))) ?_
  refine cf_go 2 ?_
  refine cf_see 14 (.bool false) (see_bool (by kernel_rfl) ((decide_eq_false (by omega)) : ((decide (((k : Nat) : Int) ≥ ((n : Nat) : Int)))) = false)) ?_
  refine cf_go 11 ?_
  refine cf_val 19 (.slice (some ⟨W, 0, none⟩) n n) H (by kernel_rfl) ((by kernel_rfl : _ = val (aload T8 56 (.pointer (some ⟨M, 16, none⟩)) H) H).trans (val_of ((aload_at gM).trans (aloadC_cellB (n := 1) (by kernel_rfl) (by kernel_rfl) (mc_16 hR))))) ?_
  refine cf_go 1 ?_
  refine cf_val 21 (.pointer (some ⟨W, 0 + k * 1, none⟩)) H (by kernel_rfl) ((by kernel_rfl : _ = val (bif (k : Nat).blt n then some (.pointer (some ⟨W, 0 + k * 1, none⟩)) else none) H).trans (by rw [show (k : Nat).blt n = true from (by rw [blt_dec]; simp only [decide_eq_true_eq]; omega)]; rfl)) ?_
  refine cf_val 22 (.int .u32 x) H (by kernel_rfl) ((by kernel_rfl : _ = val (aload T8 30 (.pointer (some ⟨W, 0 + k * 1, none⟩)) H) H).trans (val_of ((aload_at gW).trans (aloadC_cellB (n := 1) (by kernel_rfl) (by kernel_rfl) (mw_r ex))))) ?_
  refine cf_go 4 ?_
  refine cf_end (.int .u32 x) H (by kernel_rfl) (by kernel_rfl) (by kernel_rfl) ?_
  exact ⟨rfl, rfl⟩
theorem word_lo {H : Heap} {M W n : Nat} {R Wd : List Int} {cp : Value} {pc : Int} (gM : H.get M = some ⟨macC R W n cp pc, 62, false⟩) (gW : H.get W = some ⟨Wd.map (Value.int .u32), 30, false⟩) (hR : R.length = 16) (hMW : M ≠ W) (hM : M < H.n) (hW : W < H.n) (hn : n ≤ 65536) (hWl : Wd.length = n) {i : Int} (hi : i < 0) : ACall Try.prog T8 19 #[.pointer (some ⟨M, 0, none⟩), .int .i64 i] H fun r H' => r = .int .u32 0 ∧ H = H' := by
  refine acall_cf 23 (initTm 0 #[.pointer (some ⟨M, 0, none⟩), .int .i64 i]) rfl f19_fn f19_body rfl rfl ?_
  refine cf_go 10 ?_
  refine cf_see 6 (.bool true) (see_bool (by kernel_rfl) ((decide_eq_true (by omega)) : ((decide ((i : Int) < 0))) = true)) ?_
  refine cf_go 19 ?_
  refine cf_end (.int .u32 0) H (by kernel_rfl) (by kernel_rfl) (by kernel_rfl) ?_
  exact ⟨rfl, rfl⟩
theorem word_hi {H : Heap} {M W n : Nat} {R Wd : List Int} {cp : Value} {pc : Int} (gM : H.get M = some ⟨macC R W n cp pc, 62, false⟩) (gW : H.get W = some ⟨Wd.map (Value.int .u32), 30, false⟩) (hR : R.length = 16) (hMW : M ≠ W) (hM : M < H.n) (hW : W < H.n) (hn : n ≤ 65536) (hWl : Wd.length = n) {i : Int} (hi : ((n : Nat) : Int) ≤ i) : ACall Try.prog T8 19 #[.pointer (some ⟨M, 0, none⟩), .int .i64 i] H fun r H' => r = .int .u32 0 ∧ H = H' := by
  refine acall_cf 23 (initTm 0 #[.pointer (some ⟨M, 0, none⟩), .int .i64 i]) rfl f19_fn f19_body rfl rfl ?_
  refine cf_go 10 ?_
  refine cf_see 6 (.bool false) (see_bool (by kernel_rfl) ((decide_eq_false (by omega)) : ((decide ((i : Int) < 0))) = false)) ?_
  refine cf_go 5 ?_
  refine cf_val 12 (.slice (some ⟨W, 0, none⟩) n n) H (by kernel_rfl) ((by kernel_rfl : _ = val (aload T8 56 (.pointer (some ⟨M, 16, none⟩)) H) H).trans (val_of ((aload_at gM).trans (aloadC_cellB (n := 1) (by kernel_rfl) (by kernel_rfl) (mc_16 hR))))) ?_
  refine cf_go 2 ?_
  refine cf_see 14 (.bool true) (see_bool (by kernel_rfl) ((decide_eq_true (by omega)) : ((decide ((i : Int) ≥ ((n : Nat) : Int)))) = true)) ?_
  refine cf_go 11 ?_
  refine cf_end (.int .u32 0) H (by kernel_rfl) (by kernel_rfl) (by kernel_rfl) ?_
  exact ⟨rfl, rfl⟩
theorem setreg_ma {H : Heap} {M W : Nat} {cp : Value} {m : Mach} (h : MA H 62 M W cp m) {k : Nat} {v : Int} (hk : k < 16) (h0 : 0 ≤ v) (h1 : v < 18446744073709551616) : ACall Try.prog T8 17 #[.pointer (some ⟨M, 0, none⟩), .int .i64 ((k : Nat) : Int), .int .u64 v] H fun r H' => r = .bool true ∧ MA H' 62 M W cp ⟨m.R.set k v, m.Wd, m.C, m.pc⟩ ∧ Fr2 H H' M W :=
  (setreg_raw h.hM h.hW h.r16 h.mw h.mn h.wn h.wl rfl hk).mono fun r H' ⟨e, t⟩ => ⟨e, h.of t (by rw [List.length_set]; exact h.r16) rfl h.pc0 h.pc1 (set_in h.rr h0 h1) h.ww, t.hn, t.fr⟩
theorem setword_ma {H : Heap} {M W : Nat} {cp : Value} {m : Mach} (h : MA H 62 M W cp m) {k : Nat} {v : Int} (hk : k < m.Wd.length) (h0 : 0 ≤ v) (h1 : v < 4294967296) : ACall Try.prog T8 24 #[.pointer (some ⟨M, 0, none⟩), .int .i64 ((k : Nat) : Int), .int .u32 v] H fun r H' => r = .bool true ∧ MA H' 62 M W cp ⟨m.R, m.Wd.set k v, m.C, m.pc⟩ ∧ Fr2 H H' M W :=
  (setword_raw h.hM h.hW h.r16 h.mw h.mn h.wn h.wl rfl hk).mono fun r H' ⟨e, t⟩ => ⟨e, h.of t h.r16 (by rw [List.length_set]) h.pc0 h.pc1 h.rr (set_in h.ww h0 h1), t.hn, t.fr⟩
end Hm
end Go.Proofs.Ytjhijpfbokklcaa
