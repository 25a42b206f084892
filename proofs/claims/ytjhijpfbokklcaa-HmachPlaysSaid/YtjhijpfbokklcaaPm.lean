/- Chapter 4: two machines told to be alike. -/
import Derived.Test.YtjhijpfbokklcaaPl
namespace Go.Proofs.Ytjhijpfbokklcaa
open Go Go.Ev Go.RowKit
set_option linter.unusedVariables false
set_option linter.unusedSimpArgs false
set_option maxRecDepth 100000
namespace Hm
def Mach.word (m : Mach) (k : Int) : Int := (m.Wd[k.toNat]?).getD 0
theorem reg_ma {H : Heap} {M W : Nat} {cp : Value} {m : Mach} (h : MA H 62 M W cp m) (i : Int) (i0 : -5 ≤ i) : ACall Try.prog T8 18 #[.pointer (some ⟨M, 0, none⟩), .int .i64 i] H fun r H' => r = .int .u64 (if 0 ≤ i ∧ i < 16 then m.reg i else 0) ∧ H = H' := by
  by_cases h1 : 0 ≤ i ∧ i < 16
  · rw [if_pos h1]
    obtain ⟨k, rfl⟩ : ∃ k : Nat, i = k := ⟨i.toNat, by omega⟩
    have hk : k < m.R.length := by rw [h.r16]; omega
    have e : m.reg (k : Int) = m.R[k] := by simp [Mach.reg, List.getElem?_eq_getElem hk]
    rw [e]
    exact reg_raw h.hM h.hW h.r16 h.mw h.mn h.wn h.wl rfl (by omega) (List.getElem?_eq_getElem hk)
  · rw [if_neg h1]
    by_cases h2 : i < 0
    · exact reg_lo h.hM h.hW h.r16 h.mw h.mn h.wn h.wl rfl h2
    · exact reg_hi h.hM h.hW h.r16 h.mw h.mn h.wn h.wl rfl (by omega)
theorem word_ma {H : Heap} {M W : Nat} {cp : Value} {m : Mach} (h : MA H 62 M W cp m) (i : Int) : ACall Try.prog T8 19 #[.pointer (some ⟨M, 0, none⟩), .int .i64 i] H fun r H' => r = .int .u32 (if 0 ≤ i ∧ i < m.Wd.length then m.word i else 0) ∧ H = H' := by
  by_cases h1 : 0 ≤ i ∧ i < m.Wd.length
  · rw [if_pos h1]
    obtain ⟨k, rfl⟩ : ∃ k : Nat, i = k := ⟨i.toNat, by omega⟩
    have hk : k < m.Wd.length := by omega
    have e : m.word (k : Int) = m.Wd[k] := by simp [Mach.word, List.getElem?_eq_getElem hk]
    rw [e]
    exact word_raw h.hM h.hW h.r16 h.mw h.mn h.wn h.wl rfl hk (List.getElem?_eq_getElem hk)
  · rw [if_neg h1]
    by_cases h2 : i < 0
    · exact word_lo h.hM h.hW h.r16 h.mw h.mn h.wn h.wl rfl h2
    · exact word_hi h.hM h.hW h.r16 h.mw h.mn h.wn h.wl rfl (by omega)
noncomputable def f13b : Code := Try.f13.body.getD .skip
theorem f13_body : Try.f13.body = some f13b := by kernel_rfl
theorem f13_fn : T8.fn 13 = some Try.f13 := by kernel_rfl
noncomputable def f33b : Code := Try.f33.body.getD .skip
theorem f33_body : Try.f33.body = some f33b := by kernel_rfl
theorem f33_fn : T8.fn 33 = some Try.f33 := by kernel_rfl
theorem at_ma {H : Heap} {M W : Nat} {cp : Value} {m : Mach} (h : MA H 62 M W cp m) : ACall Try.prog T8 13 #[.pointer (some ⟨M, 0, none⟩)] H fun r H' => r = .int .i64 m.pc ∧ H = H' := by
  refine acall_cf 7 (initTm 0 #[.pointer (some ⟨M, 0, none⟩)]) rfl f13_fn f13_body rfl rfl ?_
  refine cf_go 10 ?_
  refine cf_val 6 (.int .i64 m.pc) H (by kernel_rfl) ((by kernel_rfl : _ = val (aload T8 3 (.pointer (some ⟨M, 18, none⟩)) H) H).trans (val_of ((aload_at h.hM).trans (aloadC_cellB (n := 1) (by kernel_rfl) (by kernel_rfl) (mc_18 h.r16))))) ?_
  refine cf_go 4 ?_
  refine cf_end (.int .i64 m.pc) H (by kernel_rfl) (by kernel_rfl) (by kernel_rfl) ?_
  exact ⟨rfl, rfl⟩
theorem words_ma {H : Heap} {M W : Nat} {cp : Value} {m : Mach} (h : MA H 62 M W cp m) : ACall Try.prog T8 33 #[.pointer (some ⟨M, 0, none⟩)] H fun r H' => r = .int .i64 ((m.Wd.length : Nat) : Int) ∧ H = H' := by
  refine acall_cf 8 (initTm 0 #[.pointer (some ⟨M, 0, none⟩)]) rfl f33_fn f33_body rfl rfl ?_
  refine cf_go 10 ?_
  refine cf_val 6 (.slice (some ⟨W, 0, none⟩) m.Wd.length m.Wd.length) H (by kernel_rfl) ((by kernel_rfl : _ = val (aload T8 56 (.pointer (some ⟨M, 16, none⟩)) H) H).trans (val_of ((aload_at h.hM).trans (aloadC_cellB (n := 1) (by kernel_rfl) (by kernel_rfl) (mc_16 h.r16))))) ?_
  refine cf_go 5 ?_
  refine cf_end (.int .i64 ((m.Wd.length : Nat) : Int)) H (by kernel_rfl) (by kernel_rfl) (by kernel_rfl) ?_
  exact ⟨rfl, rfl⟩
noncomputable def f26b : Code := Try.f26.body.getD .skip
theorem f26_body : Try.f26.body = some f26b := by kernel_rfl
theorem f26_fn : T8.fn 26 = some Try.f26 := by kernel_rfl
theorem alike_ma {H : Heap} {M1 W1 M2 W2 : Nat} {cp1 cp2 : Value} {m : Mach} (ha : MA H 62 M1 W1 cp1 m) (hb : MA H 58 M2 W2 cp2 m) : ACall Try.prog T8 26 #[.pointer (some ⟨M1, 0, none⟩), .pointer (some ⟨M2, 0, none⟩)] H fun r H' => r = .bool true ∧ H = H' := by
  have hwl := ha.wl
  have m1n := ha.mn; have w1n := ha.wn; have m2n := hb.mn; have w2n := hb.wn
  refine acall_cf 81 (initTm 0 #[.pointer (some ⟨M1, 0, none⟩), .pointer (some ⟨M2, 0, none⟩)]) rfl f26_fn f26_body rfl rfl ?_
  refine cf_go 12 ?_
  refine cf_loop 81 (cl (cl (cr (cl (cr f26b))))) [.blk 0, .next (cr (cr f26b))] (by kernel_rfl) (by kernel_rfl) (by kernel_rfl) (fun m9 s9 => ∃ (i : Int), m9 = (17 - i).toNat ∧ -1 ≤ i ∧ i ≤ 17 ∧ Kn s9.tm [(0, .pointer (some ⟨M1, 0, none⟩)), (1, .pointer (some ⟨M2, 0, none⟩)), (5, .int .i64 i)] ∧ s9.H = H) (18) ⟨-1, by omega, by omega, by omega, ⟨by kernel_rfl, by kernel_rfl, by kernel_rfl, True.intro⟩, by kernel_rfl⟩ ?_
  rintro m9 s9 ⟨i, hm, i0, i1, hkn, hH⟩ Rr1 hRr1
  refine cf_kn [(0, .pointer (some ⟨M1, 0, none⟩)), (1, .pointer (some ⟨M2, 0, none⟩)), (5, .int .i64 i)] hkn hH fun tm => ?_
  by_cases hlt : i ≤ 16
  · skip
    by_cases hin : 0 ≤ i ∧ i < 16
    · skip
      obtain ⟨k, rfl⟩ : ∃ k : Nat, i = k := ⟨i.toNat, by omega⟩
      obtain ⟨x, ex⟩ : ∃ x, m.R[k]? = some x := ⟨_, List.getElem?_eq_getElem (by rw [ha.r16]; omega)⟩
      have ex2 : m.reg (k : Int) = x := by simp [Mach.reg, ex]
      refine cf_go 5 ?_
      refine cf_see 9 (.bool true) (see_bool (by kernel_rfl) ((decide_eq_true (by omega)) : ((decide (((k : Nat) : Int) ≤ 16))) = true)) ?_
      refine cf_go 17 ?_
      refine cf_see 13 (.bool true) (see_bool (by kernel_rfl) ((decide_eq_true (by omega)) : ((decide (((k : Nat) : Int) ≥ 0))) = true)) ?_
      refine cf_go 3 ?_
      refine cf_see 16 (.bool true) (see_bool (by kernel_rfl) ((decide_eq_true (by omega)) : ((decide (((k : Nat) : Int) < 16))) = true)) ?_
      refine cf_go 9 ?_
      refine cf_val 22 (.pointer (some ⟨M2, 0 + k * 1, none⟩)) H (by kernel_rfl) ((by kernel_rfl : _ = val (bif (k : Nat).blt 16 then some (.pointer (some ⟨M2, 0 + k * 1, none⟩)) else none) H).trans (by rw [show (k : Nat).blt 16 = true from (by rw [blt_dec]; simp only [decide_eq_true_eq]; omega)]; rfl)) ?_
      refine cf_val 23 (.int .u64 x) H (by kernel_rfl) ((by kernel_rfl : _ = val (aload T8 42 (.pointer (some ⟨M2, 0 + k * 1, none⟩)) H) H).trans (val_of ((aload_at hb.hM).trans (aloadC_cellB (n := 1) (by kernel_rfl) (by kernel_rfl) (mc_r ex))))) ?_
      refine cf_go 7 ?_
      refine cf_call 26 18 #[.pointer (some ⟨M1, 0, none⟩), .int .i64 ((k : Nat) : Int)] H (by kernel_rfl) (by kernel_rfl) (by kernel_rfl) ((reg_ma ha ((k : Nat) : Int) (by omega)).mono (fun r H' h => by rw [if_pos (by omega), ex2] at h; exact h) : ACall Try.prog T8 18 _ H fun r H' => r = Value.int .u64 x ∧ H = H') ?_
      rintro _ _ ⟨rfl, rfl⟩
      refine cf_go 2 ?_
      refine cf_see 28 (.bool false) (see_bool (by kernel_rfl) ((bne_eq_false_iff_eq.2 (by omega)) : (((x : Int) != x)) = false)) ?_
      refine cf_go 9 ?_
      refine cf_see 11 (.int .i64 ((k + 1 : Nat) : Int)) (see_int (x := (IntKind.i64.wrap (((k : Nat) : Int) + 1))) (by kernel_rfl) (w64 (by omega) (by omega) (by omega))) ?_
      refine cf_go 2 ?_
      refine cf_inv Rr1 (by kernel_rfl) (hRr1 _ ⟨(17 - ((k + 1 : Nat) : Int)).toNat, by omega, ((k + 1 : Nat) : Int), rfl, by omega, by omega, ⟨by kernel_rfl, by kernel_rfl, by kernel_rfl, True.intro⟩, by kernel_rfl⟩)
    · skip
      by_cases hneg : i < 0
      · skip
        refine cf_go 5 ?_
        refine cf_see 9 (.bool true) (see_bool (by kernel_rfl) ((decide_eq_true (by omega)) : ((decide ((i : Int) ≤ 16))) = true)) ?_
        refine cf_go 17 ?_
        refine cf_see 13 (.bool false) (see_bool (by kernel_rfl) ((decide_eq_false (by omega)) : ((decide ((i : Int) ≥ 0))) = false)) ?_
        refine cf_go 13 ?_
        refine cf_call 26 18 #[.pointer (some ⟨M1, 0, none⟩), .int .i64 i] H (by kernel_rfl) (by kernel_rfl) (by kernel_rfl) ((reg_ma ha i (by omega)).mono (fun r H' h => by rw [if_neg (by omega)] at h; exact h) : ACall Try.prog T8 18 _ H fun r H' => r = Value.int .u64 0 ∧ H = H') ?_
        rintro _ _ ⟨rfl, rfl⟩
        refine cf_go 11 ?_
        refine cf_see 11 (.int .i64 (i + 1)) (see_int (x := (IntKind.i64.wrap (i + 1))) (by kernel_rfl) (w64 (by omega) (by omega) (by omega))) ?_
        refine cf_go 2 ?_
        refine cf_inv Rr1 (by kernel_rfl) (hRr1 _ ⟨(17 - (i + 1)).toNat, by omega, (i + 1), rfl, by omega, by omega, ⟨by kernel_rfl, by kernel_rfl, by kernel_rfl, True.intro⟩, by kernel_rfl⟩)
      · skip
        refine cf_go 5 ?_
        refine cf_see 9 (.bool true) (see_bool (by kernel_rfl) ((decide_eq_true (by omega)) : ((decide ((i : Int) ≤ 16))) = true)) ?_
        refine cf_go 17 ?_
        refine cf_see 13 (.bool true) (see_bool (by kernel_rfl) ((decide_eq_true (by omega)) : ((decide ((i : Int) ≥ 0))) = true)) ?_
        refine cf_go 3 ?_
        refine cf_see 16 (.bool false) (see_bool (by kernel_rfl) ((decide_eq_false (by omega)) : ((decide ((i : Int) < 16))) = false)) ?_
        refine cf_go 10 ?_
        refine cf_call 26 18 #[.pointer (some ⟨M1, 0, none⟩), .int .i64 i] H (by kernel_rfl) (by kernel_rfl) (by kernel_rfl) ((reg_ma ha i (by omega)).mono (fun r H' h => by rw [if_neg (by omega)] at h; exact h) : ACall Try.prog T8 18 _ H fun r H' => r = Value.int .u64 0 ∧ H = H') ?_
        rintro _ _ ⟨rfl, rfl⟩
        refine cf_go 11 ?_
        refine cf_see 11 (.int .i64 (i + 1)) (see_int (x := (IntKind.i64.wrap (i + 1))) (by kernel_rfl) (w64 (by omega) (by omega) (by omega))) ?_
        refine cf_go 2 ?_
        refine cf_inv Rr1 (by kernel_rfl) (hRr1 _ ⟨(17 - (i + 1)).toNat, by omega, (i + 1), rfl, by omega, by omega, ⟨by kernel_rfl, by kernel_rfl, by kernel_rfl, True.intro⟩, by kernel_rfl⟩)
  · skip
    refine cf_go 5 ?_
    refine cf_see 9 (.bool false) (see_bool (by kernel_rfl) ((decide_eq_false (by omega)) : ((decide ((i : Int) ≤ 16))) = false)) ?_
    refine cf_go 15 ?_
    refine cf_loop 81 (cl (cl (cr (cl (cr (cr f26b)))))) [.blk 2, .next (cr (cr (cr f26b)))] (by kernel_rfl) (by kernel_rfl) (by kernel_rfl) (fun m9 s9 => ∃ (k : Nat), m9 = m.Wd.length - k ∧ k ≤ m.Wd.length ∧ Kn s9.tm [(0, .pointer (some ⟨M1, 0, none⟩)), (1, .pointer (some ⟨M2, 0, none⟩)), (7, .int .i64 ((k : Nat) : Int))] ∧ s9.H = H) (m.Wd.length) ⟨0, by omega, by omega, ⟨by kernel_rfl, by kernel_rfl, by kernel_rfl, True.intro⟩, by kernel_rfl⟩ ?_
    rintro m9 s9 ⟨k, hm, k1, hkn, hH⟩ Rr2 hRr2
    refine cf_kn [(0, .pointer (some ⟨M1, 0, none⟩)), (1, .pointer (some ⟨M2, 0, none⟩)), (7, .int .i64 ((k : Nat) : Int))] hkn hH fun tm => ?_
    by_cases hlt : k < m.Wd.length
    · skip
      obtain ⟨x, ex⟩ : ∃ x, m.Wd[k]? = some x := ⟨_, List.getElem?_eq_getElem hlt⟩
      have ex2 : m.word (k : Int) = x := by simp [Mach.word, ex]
      refine cf_go 7 ?_
      refine cf_val 33 (.slice (some ⟨W2, 0, none⟩) m.Wd.length m.Wd.length) H (by kernel_rfl) ((by kernel_rfl : _ = val (aload T8 56 (.pointer (some ⟨M2, 16, none⟩)) H) H).trans (val_of ((aload_at hb.hM).trans (aloadC_cellB (n := 1) (by kernel_rfl) (by kernel_rfl) (mc_16 ha.r16))))) ?_
      refine cf_go 2 ?_
      refine cf_see 35 (.bool true) (see_bool (by kernel_rfl) ((decide_eq_true (by omega)) : ((decide (((k : Nat) : Int) < ((m.Wd.length : Nat) : Int)))) = true)) ?_
      refine cf_go 8 ?_
      refine cf_drawV (H.n) (by kernel_rfl) ?_
      refine aopsV_go 2 (by kernel_rfl) (by kernel_rfl) ?_
      refine aopsV_call 40 19 #[.pointer (some ⟨M1, 0, none⟩), .int .i64 ((k : Nat) : Int)] H (by kernel_rfl) (by kernel_rfl) (by kernel_rfl) ((word_ma ha ((k : Nat) : Int)).mono (fun r H' h => by rw [if_pos (by omega), ex2] at h; exact h) : ACall Try.prog T8 19 _ H fun r H' => r = Value.int .u32 x ∧ H = H') (fun _ _ _ h => h.2 ▸ Up.refl _) ?_
      rintro _ _ ⟨rfl, rfl⟩
      refine aopsV_go 1 (by kernel_rfl) (by kernel_rfl) ?_
      refine aopsV_val 42 (.pointer (some ⟨M2, 0, none⟩)) H H (by kernel_rfl) (by kernel_rfl) (by kernel_rfl) (fun _ => Up.refl _) (by kernel_rfl) ?_
      refine aopsV_go 1 (by kernel_rfl) (by kernel_rfl) ?_
      refine aopsV_get 44 (.slice (some ⟨W2, 0, none⟩) m.Wd.length m.Wd.length) (.pointer (some ⟨M2, 16, none⟩)) (.tmp 43) H (by kernel_rfl) (by kernel_rfl) (by kernel_rfl) (by kernel_rfl) ((by kernel_rfl : _ = aload T8 56 (.pointer (some ⟨M2, 16, none⟩)) H).trans ((aload_at hb.hM).trans (aloadC_cellB (n := 1) (by kernel_rfl) (by kernel_rfl) (mc_16 ha.r16)))) (veq_slice _ _ _) (lowB_ptr (by omega)) ((by kernel_rfl : _ = val (aload T8 56 (.pointer (some ⟨M2, 16, none⟩)) H) H).trans (val_to ((aload_at hb.hM).trans (aloadC_cellB (n := 1) (by kernel_rfl) (by kernel_rfl) (mc_16 ha.r16))) (by kernel_rfl))) ?_
      refine aopsV_go 1 (by kernel_rfl) (by kernel_rfl) ?_
      refine aopsV_val 46 (.pointer (some ⟨W2, 0 + k * 1, none⟩)) H H (by kernel_rfl) ((by kernel_rfl : _ = val (bif (k : Nat).blt m.Wd.length then some (.pointer (some ⟨W2, 0 + k * 1, none⟩)) else none) H).trans (by rw [show (k : Nat).blt m.Wd.length = true from (by rw [blt_dec]; simp only [decide_eq_true_eq]; omega)]; rfl)) (by kernel_rfl) (fun _ => Up.refl _) (by kernel_rfl) ?_
      refine aopsV_get 47 (.int .u32 x) (.pointer (some ⟨W2, 0 + k * 1, none⟩)) (.tmp 46) H (by kernel_rfl) (by kernel_rfl) (by kernel_rfl) (by kernel_rfl) ((by kernel_rfl : _ = aload T8 30 (.pointer (some ⟨W2, 0 + k * 1, none⟩)) H).trans ((aload_at hb.hW).trans (aloadC_cellB (n := 1) (by kernel_rfl) (by kernel_rfl) (mw_r ex)))) (veq_int _ _) (lowB_ptr (by omega)) ((by kernel_rfl : _ = val (aload T8 30 (.pointer (some ⟨W2, 0 + k * 1, none⟩)) H) H).trans (val_to ((aload_at hb.hW).trans (aloadC_cellB (n := 1) (by kernel_rfl) (by kernel_rfl) (mw_r ex))) (by kernel_rfl))) ?_
      refine aopsV_go 1 (by kernel_rfl) (by kernel_rfl) ?_
      refine aopsV_see 48 (.bool false) (see_bool (by kernel_rfl) ((bne_eq_false_iff_eq.2 (by omega)) : (((x : Int) != x)) = false)) ?_
      refine aopsV_end (by kernel_rfl) ?_
      refine cf_go 8 ?_
      refine cf_see 37 (.int .i64 ((k + 1 : Nat) : Int)) (see_int (x := (IntKind.i64.wrap (((k : Nat) : Int) + 1))) (by kernel_rfl) (w64 (by omega) (by omega) (by omega))) ?_
      refine cf_go 2 ?_
      refine cf_inv Rr2 (by kernel_rfl) (hRr2 _ ⟨m.Wd.length - (k + 1), by omega, k + 1, rfl, by omega, ⟨by kernel_rfl, by kernel_rfl, by kernel_rfl, True.intro⟩, by kernel_rfl⟩)
    · skip
      refine cf_go 7 ?_
      refine cf_val 33 (.slice (some ⟨W2, 0, none⟩) m.Wd.length m.Wd.length) H (by kernel_rfl) ((by kernel_rfl : _ = val (aload T8 56 (.pointer (some ⟨M2, 16, none⟩)) H) H).trans (val_of ((aload_at hb.hM).trans (aloadC_cellB (n := 1) (by kernel_rfl) (by kernel_rfl) (mc_16 ha.r16))))) ?_
      refine cf_go 2 ?_
      refine cf_see 35 (.bool false) (see_bool (by kernel_rfl) ((decide_eq_false (by omega)) : ((decide (((k : Nat) : Int) < ((m.Wd.length : Nat) : Int)))) = false)) ?_
      refine cf_go 9 ?_
      refine cf_drawV (H.n) (by kernel_rfl) ?_
      refine aopsV_go 1 (by kernel_rfl) (by kernel_rfl) ?_
      refine aopsV_call 50 19 #[.pointer (some ⟨M1, 0, none⟩), .int .i64 (-1)] H (by kernel_rfl) (by kernel_rfl) (by kernel_rfl) ((word_ma ha (-1)).mono (fun r H' h => by rw [if_neg (by omega)] at h; exact h) : ACall Try.prog T8 19 _ H fun r H' => r = Value.int .u32 0 ∧ H = H') (calm_no (by kernel_rfl)) ?_
      rintro _ _ ⟨rfl, rfl⟩
      refine aopsV_go 6 (by kernel_rfl) (by kernel_rfl) ?_
      refine aopsV_val 57 (.slice (some ⟨W2, 0, none⟩) m.Wd.length m.Wd.length) H H (by kernel_rfl) ((by kernel_rfl : _ = val (aload T8 56 (.pointer (some ⟨M2, 16, none⟩)) H) H).trans (val_of ((aload_at hb.hM).trans (aloadC_cellB (n := 1) (by kernel_rfl) (by kernel_rfl) (mc_16 ha.r16))))) (by kernel_rfl) (calm_no (by kernel_rfl)) (by kernel_rfl) ?_
      refine aopsV_go 1 (by kernel_rfl) (by kernel_rfl) ?_
      refine aopsV_call 59 19 #[.pointer (some ⟨M1, 0, none⟩), .int .i64 ((m.Wd.length : Nat) : Int)] H (by kernel_rfl) (by kernel_rfl) (by kernel_rfl) ((word_ma ha ((m.Wd.length : Nat) : Int)).mono (fun r H' h => by rw [if_neg (by omega)] at h; exact h) : ACall Try.prog T8 19 _ H fun r H' => r = Value.int .u32 0 ∧ H = H') (calm_no (by kernel_rfl)) ?_
      rintro _ _ ⟨rfl, rfl⟩
      refine aopsV_go 4 (by kernel_rfl) (by kernel_rfl) ?_
      refine aopsV_call 64 33 #[.pointer (some ⟨M1, 0, none⟩)] H (by kernel_rfl) (by kernel_rfl) (by kernel_rfl) (words_ma ha) (fun _ _ _ h => h.2 ▸ Up.refl _) ?_
      rintro _ _ ⟨rfl, rfl⟩
      refine aopsV_go 1 (by kernel_rfl) (by kernel_rfl) ?_
      refine aopsV_val 66 (.pointer (some ⟨M2, 0, none⟩)) H H (by kernel_rfl) (by kernel_rfl) (by kernel_rfl) (fun _ => Up.refl _) (by kernel_rfl) ?_
      refine aopsV_go 1 (by kernel_rfl) (by kernel_rfl) ?_
      refine aopsV_get 68 (.slice (some ⟨W2, 0, none⟩) m.Wd.length m.Wd.length) (.pointer (some ⟨M2, 16, none⟩)) (.tmp 67) H (by kernel_rfl) (by kernel_rfl) (by kernel_rfl) (by kernel_rfl) ((by kernel_rfl : _ = aload T8 56 (.pointer (some ⟨M2, 16, none⟩)) H).trans ((aload_at hb.hM).trans (aloadC_cellB (n := 1) (by kernel_rfl) (by kernel_rfl) (mc_16 ha.r16)))) (veq_slice _ _ _) (lowB_ptr (by omega)) ((by kernel_rfl : _ = val (aload T8 56 (.pointer (some ⟨M2, 16, none⟩)) H) H).trans (val_to ((aload_at hb.hM).trans (aloadC_cellB (n := 1) (by kernel_rfl) (by kernel_rfl) (mc_16 ha.r16))) (by kernel_rfl))) ?_
      refine aopsV_go 2 (by kernel_rfl) (by kernel_rfl) ?_
      refine aopsV_see 70 (.bool true) (see_bool (by kernel_rfl) ((beq_iff_eq.2 (by omega)) : ((((m.Wd.length : Nat) : Int) == ((m.Wd.length : Nat) : Int))) = true)) ?_
      refine aopsV_go 3 (by kernel_rfl) (by kernel_rfl) ?_
      refine aopsV_call 74 13 #[.pointer (some ⟨M1, 0, none⟩)] H (by kernel_rfl) (by kernel_rfl) (by kernel_rfl) (at_ma ha) (fun _ _ _ h => h.2 ▸ Up.refl _) ?_
      rintro _ _ ⟨rfl, rfl⟩
      refine aopsV_go 1 (by kernel_rfl) (by kernel_rfl) ?_
      refine aopsV_val 76 (.pointer (some ⟨M2, 0, none⟩)) H H (by kernel_rfl) (by kernel_rfl) (by kernel_rfl) (fun _ => Up.refl _) (by kernel_rfl) ?_
      refine aopsV_go 1 (by kernel_rfl) (by kernel_rfl) ?_
      refine aopsV_get 78 (.int .i64 m.pc) (.pointer (some ⟨M2, 18, none⟩)) (.tmp 77) H (by kernel_rfl) (by kernel_rfl) (by kernel_rfl) (by kernel_rfl) ((by kernel_rfl : _ = aload T8 3 (.pointer (some ⟨M2, 18, none⟩)) H).trans ((aload_at hb.hM).trans (aloadC_cellB (n := 1) (by kernel_rfl) (by kernel_rfl) (mc_18 ha.r16)))) (veq_int _ _) (lowB_ptr (by omega)) ((by kernel_rfl : _ = val (aload T8 3 (.pointer (some ⟨M2, 18, none⟩)) H) H).trans (val_to ((aload_at hb.hM).trans (aloadC_cellB (n := 1) (by kernel_rfl) (by kernel_rfl) (mc_18 ha.r16))) (by kernel_rfl))) ?_
      refine aopsV_go 1 (by kernel_rfl) (by kernel_rfl) ?_
      refine aopsV_see 79 (.bool true) (see_bool (by kernel_rfl) ((beq_iff_eq.2 (by omega)) : (((m.pc : Int) == m.pc)) = true)) ?_
      refine aopsV_go 2 (by kernel_rfl) (by kernel_rfl) ?_
      refine aopsV_end (by kernel_rfl) ?_
      refine cf_go 2 ?_
      refine cf_end (.bool true) H (by kernel_rfl) (by kernel_rfl) (by kernel_rfl) ?_
      exact ⟨rfl, rfl⟩
end Hm
end Go.Proofs.Ytjhijpfbokklcaa
