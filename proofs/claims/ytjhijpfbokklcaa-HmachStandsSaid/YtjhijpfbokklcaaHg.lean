/- HmachStands: the whole call. -/
import Derived.Test.YtjhijpfbokklcaaHf
namespace Go.Proofs.Ytjhijpfbokklcaa
open Go Go.Ev Go.RowKit
set_option linter.unusedVariables false
set_option linter.unusedSimpArgs false
set_option maxRecDepth 100000
namespace Hs
theorem ok0 : codeOk T4 f5r0 = true := by kernel_rfl
theorem ok1 : codeOk T4 f5r1 = true := by kernel_rfl
theorem ok2 : codeOk T4 f5r2 = true := by kernel_rfl
theorem okn4 : codeOk T4 f5n4 = true := by kernel_rfl
theorem ok5 : codeOk T4 f5r5 = true := by kernel_rfl
theorem ok6 : codeOk T4 f5r6 = true := by kernel_rfl
theorem ok7 : codeOk T4 f5r7 = true := by kernel_rfl
theorem ok8 : codeOk T4 f5r8 = true := by kernel_rfl
theorem ok10 : codeOk T4 f5r10 = true := by kernel_rfl
theorem ok11 : codeOk T4 f5r11 = true := by kernel_rfl
theorem ok12 : codeOk T4 f5r12 = true := by kernel_rfl
theorem ok13 : codeOk T4 f5r13 = true := by kernel_rfl
theorem ok14 : codeOk T4 f5r14 = true := by kernel_rfl
theorem ok15 : codeOk T4 f5r15 = true := by kernel_rfl
theorem ok16 : codeOk T4 f5r16 = true := by kernel_rfl
theorem ok18 : codeOk T4 f5r18 = true := by kernel_rfl
theorem c13 : cop f5n13 = .tmp 45 := by kernel_rfl
theorem c17 : cop f5n17 = .tmp 55 := by kernel_rfl
theorem c22 : cop f5n22 = .tmp 61 := by kernel_rfl
theorem c30 : cop f5n30 = .tmp 78 := by kernel_rfl
theorem c34 : cop f5n34 = .tmp 100 := by kernel_rfl
theorem kn_tail {s : St} {x : Nat × Value} {L : List (Nat × Value)} (h : Knows s (x :: L)) : Knows s L := fun p hp => h p (by simp [hp])
theorem wrap1 (k : Nat) (h : k ≤ 1000) : IntKind.i64.wrap ((k : Int) + 1) = ((k + 1 : Nat) : Int) := by rw [IntKind.wrap_i64]; omega
theorem u8w (x : Int) : IntKind.u8.wrap x = x % 256 := by simp [IntKind.wrap, IntKind.bits, IntKind.signed]
theorem u32w (x : Int) : IntKind.u32.wrap x = x % 4294967296 := by simp [IntKind.wrap, IntKind.bits, IntKind.signed]
theorem u64w (x : Int) : IntKind.u64.wrap x = x % 18446744073709551616 := by simp [IntKind.wrap, IntKind.bits, IntKind.signed]
theorem byt_eq (imm : Int) (i : Nat) : byt imm i = imm / (2 ^ i : Int) % 256 := by
  unfold byt
  rw [u8w, u32w, Int.fdiv_eq_ediv_of_nonneg _ (by exact Int.pow_nonneg (by omega))]
  omega
theorem Eim_eq (imm : Int) (h0 : 0 ≤ imm) (h1 : imm < 4294967296) : Eim imm = imm := by
  have b0 : isByte (imm % 256) := by unfold isByte; omega
  have b1 : isByte (imm / 256 % 256) := by unfold isByte; omega
  have b2 : isByte (imm / 65536 % 256) := by unfold isByte; omega
  have b3 : isByte (imm / 16777216 % 256) := by unfold isByte; omega
  have e0 : IntKind.u32.wrap (IntKind.u8.wrap imm) = imm % 256 := by rw [u8w, u32w]; omega
  have e1 : IntKind.u32.wrap (byt imm 8 * 2 ^ 8) = imm / 256 % 256 * 256 := by rw [byt_eq, u32w]; omega
  have e2 : IntKind.u32.wrap (byt imm 16 * 2 ^ 16) = imm / 65536 % 256 * 65536 := by rw [byt_eq, u32w]; omega
  have e3 : IntKind.u32.wrap (byt imm 24 * 2 ^ 24) = imm / 16777216 % 256 * 16777216 := by rw [byt_eq, u32w]; omega
  unfold Eim
  rw [e0, e1, e2, e3]
  have := imF_eq _ _ _ _ b0 b1 b2 b3
  unfold imF at this
  show bits .or .u32 (bits .or .u32 (bits .or .u32 (imm % 256) (imm / 256 % 256 * 256)) (imm / 65536 % 256 * 65536)) (imm / 16777216 % 256 * 16777216) = imm
  rw [this]
  omega
abbrev Rt : Xt → St → Prop := RetIs T4 Try.f5.results fun v _ => v = .bool true
theorem ret_true {s : St} (h : Knows s [(6, .bool true)]) : Rt .ret s := ⟨(s.tm.get 6).getD undef, by kernel_rfl, h (6, .bool true) (by simp)⟩
/-- Where the arguments' numbers lie. -/
def RowAt (t0 : Option Ob) (a : Option Addr) (R : List Int) : Prop := 0 < R.length → ∃ (ob : Ob) (off : Nat), a = some ⟨0, off, none⟩ ∧ t0 = some ob ∧ ∀ (i : Nat) (x : Int), R[i]? = some x → ob.cells[off + i]? = some (.int .u64 x)
section
variable {w0 : World} {op imm w r0 : Int} {a : Option Addr} {cap : Nat} {R : List Int} {t0 : Option Ob}
theorem stop_tail {s : St} {Rl : List Value} (hw : (w == 0) = false) (hk : Knows s [(7, Pm 2), (11, .int .i64 w), (12, .int .u64 r0)]) (hM : MH s.H 2 1 11 Rl zeros4 op (Eim imm) 0) (h0 : Rl[0]? = some (.int .u64 r0))
    (hst : ∀ H', MH H' 2 1 11 Rl zeros4 op (Eim imm) 0 → ACall Try.prog T4 21 #[Pm 2] H' fun r H'' => r = .int .i64 w ∧ Ext H' H'') : Tw Try.prog 102 w0 f5n20 Rt s := by
  rw [f5n20_eq, f5n21_eq]
  refine tw_seq (tw_seq (step ok11 hk fun d => reg11_stop hw fun s1 h1 e1 => then_normal ?_))
  rw [f5n22_eq]
  refine tw_cond (t := false) (by rw [c22]; exact kget h1 (by simp)) (tw_skip (then_normal ?_))
  rw [f5n24_eq, f5n25_eq]
  have h1' : Knows s1 [(7, Pm 2), (11, .int .i64 w), (12, .int .u64 r0)] := fun p hp => h1 p (by simp only [List.mem_cons] at hp ⊢; rcases hp with h | h | h | h <;> first | (cases h; done) | simp [h])
  refine tw_seq (tw_seq (step ok13 h1' fun d => reg13 fun s2 h2 e2 => then_normal ?_))
  rw [f5n26_eq, f5n27_eq]
  refine tw_block (tw_loop (fun m s => ∃ k : Nat, k ≤ 3 ∧ m = 3 - k ∧ Knows s (S0 w r0 k) ∧ MH s.H 2 1 11 Rl zeros4 op (Eim imm) 0) 3 ⟨0, by omega, by omega, h2, by rw [e2, e1]; exact hM⟩ ?_)
  rintro m s ⟨k, hk3, rfl, hkn, hMs⟩
  rw [f5n28_eq, f5n29_eq]
  refine tw_seq (tw_seq (step ok14 hkn fun d => reg14 fun s3 h3 e3 => then_normal ?_))
  rw [f5n30_eq]
  refine tw_cond (t := decide ((k : Int) < 3)) (by rw [c30]; exact kget h3 (by simp)) ?_
  by_cases hlt : k < 3
  · rw [show decide ((k : Int) < 3) = true from by simp; omega]
    refine tw_skip (then_normal ?_)
    rw [f5n31_eq, f5n32_eq, f5n33_eq]
    have hM3 : MH s3.H 2 1 11 Rl zeros4 op (Eim imm) 0 := by rw [e3]; exact hMs
    refine tw_seq (tw_block (tw_seq (step ok16 (kn_tail h3) fun d => reg16 (hst _ hM3) (fun H' hE => at_ev (hM3.ext hE)) (fun H' hE => reg_ev (hM3.ext hE) h0) (fun H' hE => word_ev (hM3.ext hE) rfl) fun s4 h4 hE4 => then_normal ?_)))
    rw [f5n34_eq]
    refine tw_cond (t := false) (by rw [c34]; exact kget h4 (by simp)) (tw_skip (blk_normal (then_normal ?_)))
    refine step ok15 (kn_tail h4) fun d => reg15 fun s5 h5 e5 => then_normal ⟨3 - (k + 1), by omega, k + 1, by omega, rfl, ?_, by rw [e5]; exact hM3.ext hE4⟩
    rw [wrap1 k (by omega)] at h5
    exact h5
  · rw [show decide ((k : Int) < 3) = false from by simp; omega]
    refine tw_exit (then_exit (then_exit (blk_hit (then_normal ?_))))
    rw [f5n36_eq]
    have h3' : Knows s3 [(7, Pm 2)] := fun p hp => h3 p (by simp only [List.mem_cons] at hp ⊢; rcases hp with h | h <;> first | (cases h; done) | simp [h])
    exact tw_seq (step ok18 h3' fun d => reg18 fun s6 h6 => then_normal (tw_ret (ret_true h6)))
theorem run_tail {s : St} {x : Int} (hk : Knows s [(2, .int .u32 imm), (7, Pm 2), (9, Pm 4), (11, .int .i64 0)]) (hF : (∃ (cells : List Value) (r1 : Int), s.H.get 2 = some ⟨cells, 62, false⟩ ∧ cells[18]? = some (.int .i64 x) ∧ cells[0]? = some (.int .u64 r1)) ∧ s.H.get 4 = some (ICell op imm))
    (hx : x ≠ 0 ∨ (op = 18 ∧ imm = 0 ∧ x = 0)) : Tw Try.prog 102 w0 f5n20 Rt s := by
  obtain ⟨⟨cells, r1, hm, h18, _⟩, h4⟩ := hF
  rw [f5n20_eq, f5n21_eq]
  refine tw_seq (tw_seq (step ok11 hk fun d => reg11_run fun s1 h1 e1 => then_normal ?_))
  rw [f5n22_eq]
  refine tw_cond (t := true) (by rw [c22]; exact kget h1 (by simp)) ?_
  simp only [cond_true]
  rw [f5n23_eq]
  have h1' : Knows s1 [(2, .int .u32 imm), (7, Pm 2), (9, Pm 4)] := fun p hp => h1 p (by simp only [List.mem_cons] at hp ⊢; rcases hp with h | h | h | h <;> first | (cases h; done) | simp [h])
  rcases hx with hx | ⟨rfl, rfl, rfl⟩
  · exact tw_seq (step ok12 h1' fun d => reg12_a (at_ev2 (by rw [e1]; exact hm) h18) (by simp [bne, hx]) fun s2 h2 => then_normal (tw_ret (then_ret (ret_true h2))))
  · exact tw_seq (step ok12 h1' fun d => reg12_z (at_ev2 (by rw [e1]; exact hm) h18) (by rw [e1]; exact h4) fun s2 h2 => then_normal (tw_ret (then_ret (ret_true h2))))
theorem after {s : St} {Rl : List Value} {k : Nat} {len : Nat} (hop : op = 14 ∨ op = 15 ∨ op = 19 ∨ op = 18) (hi0 : 0 ≤ imm) (hi1 : imm < 4294967296) (hk : Knows s [(1, Sl a len cap), (2, .int .u32 imm), (7, Pm 2), (9, Pm 4), (10, .int .i64 k)])
    (hM : MH s.H 2 1 11 Rl zeros4 op (Eim imm) 0) (hR : ∀ i, i < 16 → ∃ r, Rl[i]? = some (.int .u64 r)) (h4 : s.H.get 4 = some (ICell op imm)) : Tw Try.prog 102 w0 f5n19 Rt s := by
  rw [f5n19_eq]
  obtain ⟨r0, h0⟩ := hR 0 (by omega)
  have k7 : Knows s [(7, Pm 2)] := fun p hp => hk p (by simp only [List.mem_cons] at hp ⊢; rcases hp with h | h <;> first | (cases h; done) | simp [h])
  have k279 : Knows s [(2, .int .u32 imm), (7, Pm 2), (9, Pm 4)] := fun p hp => hk p (by simp only [List.mem_cons] at hp ⊢; rcases hp with h | h | h | h <;> first | (cases h; done) | simp [h])
  have stop : ∀ w : Int, (w == 0) = false → (∀ H', MH H' 2 1 11 Rl zeros4 op (Eim imm) 0 → ACall Try.prog T4 21 #[Pm 2] H' fun r H'' => r = .int .i64 w ∧ Ext H' H'') → Tw Try.prog 102 w0 (.seq f5r10 f5n20) Rt s := by
    intro w hw hst
    exact tw_seq (step ok10 k7 fun d => reg10_stop (hst _ hM) (fun H' hE => reg_ev (hM.ext hE) h0) fun s1 h1 hE1 => then_normal (stop_tail hw h1 (hM.ext hE1) h0 hst))
  have run : ∀ x : Int, (ACall Try.prog T4 21 #[Pm 2] s.H fun r H' => r = .int .i64 0 ∧ (∃ (cells : List Value) (r1 : Int), H'.get 2 = some ⟨cells, 62, false⟩ ∧ cells[18]? = some (.int .i64 x) ∧ cells[0]? = some (.int .u64 r1)) ∧ (∀ b, b < s.H.n → b ≠ 2 → b ≠ 1 → H'.get b = s.H.get b)) →
      (x ≠ 0 ∨ (op = 18 ∧ imm = 0 ∧ x = 0)) → Tw Try.prog 102 w0 (.seq f5r10 f5n20) Rt s := by
    intro x hc hx
    have hn : 4 < s.H.n := by have := hM.cn; omega
    exact tw_seq (step ok10 k279 fun d => reg10_run (F := fun H' => (∃ (cells : List Value) (r1 : Int), H'.get 2 = some ⟨cells, 62, false⟩ ∧ cells[18]? = some (.int .i64 x) ∧ cells[0]? = some (.int .u64 r1)) ∧ H'.get 4 = some (ICell op imm))
      (hc.mono fun r H' ⟨e1, e2, e3⟩ => ⟨e1, e2, by rw [e3 4 hn (by omega) (by omega)]; exact h4⟩) (fun H' ⟨⟨cells, r1, q1, _, q3⟩, _⟩ => ⟨r1, reg_ev2 q1 q3⟩) fun s1 h1 hF => then_normal (run_tail h1 hF hx))
  have hE := Eim_eq imm hi0 hi1
  have hpl : 0 ≤ IntKind.u64.wrap (r0 + IntKind.u64.wrap (Eim imm)) := by rw [u64w]; omega
  rcases hop with rfl | rfl | rfl | rfl
  · by_cases hp : IntKind.u64.wrap (r0 + IntKind.u64.wrap (Eim imm)) ≥ 4
    · exact stop 4 rfl fun H' hM' => step_bad14 hM' h0 (by simp [hp])
    · obtain ⟨p, hP⟩ : ∃ p : Nat, IntKind.u64.wrap (r0 + IntKind.u64.wrap (Eim imm)) = (p : Int) := ⟨(IntKind.u64.wrap (r0 + IntKind.u64.wrap (Eim imm))).toNat, by omega⟩
      have hp4 : p < 4 := by omega
      refine run 1 (step_ld hM h0 (by simp; omega) hP hp4 (x := 0) ?_) (.inl (by omega))
      rcases (by omega : p = 0 ∨ p = 1 ∨ p = 2 ∨ p = 3) with rfl | rfl | rfl | rfl <;> rfl
  · by_cases hp : IntKind.u64.wrap (r0 + IntKind.u64.wrap (Eim imm)) ≥ 4
    · exact stop 4 rfl fun H' hM' => step_bad15 hM' h0 (by simp [hp])
    · obtain ⟨p, hP⟩ : ∃ p : Nat, IntKind.u64.wrap (r0 + IntKind.u64.wrap (Eim imm)) = (p : Int) := ⟨(IntKind.u64.wrap (r0 + IntKind.u64.wrap (Eim imm))).toNat, by omega⟩
      have hp4 : p < 4 := by omega
      exact run 1 (step_st hM h0 (by simp; omega) hP hp4) (.inl (by omega))
  · exact stop 1 rfl fun H' hM' => step_exit hM' h0
  · refine run (IntKind.i64.wrap (Eim imm)) (step_jmp hM h0) ?_
    rw [hE, IntKind.wrap_i64]
    by_cases h : imm = 0
    · exact .inr ⟨rfl, h, by omega⟩
    · exact .inl (by omega)
theorem rest {s : St} (hop : op = 14 ∨ op = 15 ∨ op = 19 ∨ op = 18) (hi0 : 0 ≤ imm) (hi1 : imm < 4294967296) (hA : RowAt t0 a R) (hB : Behind a R.length cap imm t0 op s) : Tw Try.prog 102 w0 f5n7 Rt s := by
  obtain ⟨hk, hM, h4, hz, hn⟩ := hB
  rw [f5n7_eq, f5n8_eq]
  refine tw_seq (tw_seq (step ok5 hk fun d => reg5 fun s1 h1 e1 => then_normal ?_))
  rw [f5n9_eq, f5n10_eq]
  refine tw_block (tw_loop (fun m s => ∃ (k : Nat) (Rl : List Value), k ≤ R.length ∧ k ≤ 16 ∧ m = 16 - k ∧ Knows s [(1, Sl a R.length cap), (2, .int .u32 imm), (7, Pm 2), (9, Pm 4), (10, .int .i64 k)] ∧ MH s.H 2 1 11 Rl zeros4 op (Eim imm) 0 ∧ (∀ i, i < 16 → ∃ r, Rl[i]? = some (.int .u64 r)) ∧ s.H.get 4 = some (ICell op imm) ∧ s.H.get 0 = t0) 16
    ⟨0, zeros16, by omega, by omega, by omega, h1, by rw [e1]; exact hM, fun i hi => ⟨0, ?_⟩, by rw [e1]; exact h4, by rw [e1]; exact hz⟩ ?_)
  · rcases (by omega : i = 0 ∨ i = 1 ∨ i = 2 ∨ i = 3 ∨ i = 4 ∨ i = 5 ∨ i = 6 ∨ i = 7 ∨ i = 8 ∨ i = 9 ∨ i = 10 ∨ i = 11 ∨ i = 12 ∨ i = 13 ∨ i = 14 ∨ i = 15) with rfl | rfl | rfl | rfl | rfl | rfl | rfl | rfl | rfl | rfl | rfl | rfl | rfl | rfl | rfl | rfl <;> rfl
  rintro m s ⟨k, Rl, hkR, hk16, rfl, hkn, hMs, hRs, h4s, hzs⟩
  rw [f5n11_eq, f5n12_eq]
  refine tw_seq (tw_seq ?_)
  by_cases hlt : k < R.length
  · refine step ok6 hkn fun d => reg6_t (by simp [hlt]) fun s2 h2 e2 => then_normal ?_
    rw [f5n13_eq]
    refine tw_cond (t := decide ((k : Int) < 16)) (by rw [c13]; exact kget h2 (by simp)) ?_
    by_cases h16 : k < 16
    · rw [show decide ((k : Int) < 16) = true from by simp; omega]
      refine tw_skip (then_normal ?_)
      obtain ⟨ob, off, rfl, rfl, hcl⟩ := hA (by omega)
      rw [f5n14_eq, f5n15_eq, f5n16_eq]
      have hv := hcl k R[k] (List.getElem?_eq_getElem hlt)
      have hM2 : MH s2.H 2 1 11 Rl zeros4 op (Eim imm) 0 := by rw [e2]; exact hMs
      refine tw_seq (tw_block (tw_seq (step ok8 (kn_tail h2) fun d => reg8 (v := R[k]) (by rw [blt_dec]; simp [hlt]) (by rw [e2]; exact hzs) (by rw [Nat.mul_one]; exact hv) hM2.m (by simp [hM2.rl]) h16 fun s3 h3 e3 => then_normal ?_)))
      rw [f5n17_eq]
      refine tw_cond (t := false) (by rw [c17]; exact kget h3 (by simp)) (tw_skip (blk_normal (then_normal ?_)))
      have hkl : k < Rl.length := by rw [hM2.rl]; exact h16
      have g : ∀ b, b ≠ 2 → s3.H.get b = s2.H.get b := fun b hb => by rw [e3, Heap.get_put, if_neg hb]
      have g2 : s3.H.get 2 = some ⟨Rl.set k (.int .u64 R[k]) ++ [.slice (some ⟨1, 0, none⟩) 4 4, .slice (some ⟨11, 0, none⟩) 1 (unk + 5), .int .i64 0], 62, false⟩ := by
        rw [e3, Heap.get_put, if_pos rfl, List.set_append_left _ _ hkl]
      have hn3 : s3.H.n = s2.H.n := by rw [e3]; rfl
      refine step ok7 (kn_tail h3) fun d => reg7 fun s4 h4' e4 => then_normal ⟨16 - (k + 1), by omega, k + 1, Rl.set k (.int .u64 R[k]), by omega, by omega, rfl, ?_, ?_, fun i hi => ?_, by rw [e4, g 4 (by omega), e2]; exact h4s, by rw [e4, g 0 (by omega), e2]; exact hzs⟩
      · rw [wrap1 k (by omega)] at h4'
        exact h4'
      · rw [e4]
        exact ⟨g2, by simp [hM2.rl], by rw [g 1 (by omega)]; exact hM2.w, hM2.wl, by rw [g 11 (by omega)]; exact hM2.c, hM2.mw, hM2.mc, hM2.wc, by rw [hn3]; exact hM2.mn, by rw [hn3]; exact hM2.wn, by rw [hn3]; exact hM2.cn⟩
      · by_cases e : k = i
        · subst e; exact ⟨R[k], List.getElem?_set_self hkl⟩
        · obtain ⟨r, hr⟩ := hRs i hi
          exact ⟨r, (List.getElem?_set_ne e).trans hr⟩
    · rw [show decide ((k : Int) < 16) = false from by simp; omega]
      exact tw_exit (then_exit (then_exit (blk_hit (then_normal (after hop hi0 hi1 (kn_tail h2) (by rw [e2]; exact hMs) hRs (by rw [e2]; exact h4s))))))
  · refine step ok6 hkn fun d => reg6_f (by simp; omega) fun s2 h2 e2 => then_normal ?_
    rw [f5n13_eq]
    refine tw_cond (t := false) (by rw [c13]; exact kget h2 (by simp)) ?_
    exact tw_exit (then_exit (then_exit (blk_hit (then_normal (after hop hi0 hi1 (kn_tail h2) (by rw [e2]; exact hMs) hRs (by rw [e2]; exact h4s))))))
theorem stands_tw {n : Int} (hn : isI n) (hi0 : 0 ≤ imm) (hi1 : imm < 4294967296) (hA : RowAt t0 a R) : Tw Try.prog 102 w0 f5b Rt ⟨initTm 0 #[.int .i64 n, Sl a R.length cap, .int .u32 imm], H0 t0⟩ := by
  rw [f5b_eq, f5n1_eq, f5n2_eq, f5n3_eq]
  unfold isI at hn
  have hi : inB n 0 3 = true := by simp [inB]; omega
  have hm := Int.emod_nonneg n (by omega : (4 : Int) ≠ 0)
  have hm' := Int.emod_lt_of_pos n (by omega : (0 : Int) < 4)
  have hj : ∀ j : Int, n % 4 = j → 0 + n % (3 - 0 + 1) = j := fun j h => by simpa using h
  rcases (by omega : n % 4 = 0 ∨ n % 4 = 1 ∨ n % 4 = 2 ∨ n % 4 = 3) with h | h | h | h
  · exact tw_nq ok0 (pre14 hi (hj 0 h)) fun s0 q0 => tw_nq ok1 q0 fun s1 q1 => tw_nq ok2 q1 fun s2 q2 => tw_nq okn4 q2 fun s3 q3 => rest (.inl rfl) hi0 hi1 hA q3
  · exact tw_nq ok0 (pre15 hi (hj 1 h)) fun s0 q0 => tw_nq ok1 q0 fun s1 q1 => tw_nq ok2 q1 fun s2 q2 => tw_nq okn4 q2 fun s3 q3 => rest (.inr (.inl rfl)) hi0 hi1 hA q3
  · exact tw_nq ok0 (pre19 hi (hj 2 h)) fun s0 q0 => tw_nq ok1 q0 fun s1 q1 => tw_nq ok2 q1 fun s2 q2 => tw_nq okn4 q2 fun s3 q3 => rest (.inr (.inr (.inl rfl))) hi0 hi1 hA q3
  · exact tw_nq ok0 (pre18 hi (hj 3 h)) fun s0 q0 => tw_nq ok1 q0 fun s1 q1 => tw_nq ok2 q1 fun s2 q2 => tw_nq okn4 q2 fun s3 q3 => rest (.inr (.inr (.inr rfl))) hi0 hi1 hA q3
end
end Hs
end Go.Proofs.Ytjhijpfbokklcaa
