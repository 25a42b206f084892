/- Chapter 4: Run. -/
import Derived.Test.YtjhijpfbokklcaaPk
namespace Go.Proofs.Ytjhijpfbokklcaa
open Go Go.Ev Go.RowKit
set_option linter.unusedVariables false
set_option linter.unusedSimpArgs false
set_option maxRecDepth 100000
namespace Hm
theorem Fr2.refl (H : Heap) (M W : Nat) : Fr2 H H M W := ⟨Nat.le_refl _, fun _ _ _ _ => rfl⟩
theorem Fr2.trans {a b c : Heap} {M W : Nat} (h : Fr2 a b M W) (k : Fr2 b c M W) : Fr2 a c M W := ⟨Nat.le_trans h.n k.n, fun x hx h1 h2 => (k.get x (Nat.lt_of_lt_of_le hx h.n) h1 h2).trans (h.get x hx h1 h2)⟩
def Mach.imm (m : Mach) : Int := match m.C[m.pc.toNat]? with
  | some i => i.2.2.2.2
  | none => 0
/-- What Run tells, of so many steps more, behind so many; and the machine then. -/
def Mach.run : Nat → Nat → Mach → (Int × Int × Nat) × Mach
  | 0, n, m => ((5, 0, n), m)
  | s + 1, n, m => if m.step.1 = 0 then Mach.run s (n + 1) m.step.2 else if m.step.1 = 1 then ((1, m.step.2.imm, n), m.step.2) else ((m.step.1, 0, n), m.step.2)
theorem stepI_exit {m m2 : Mach} {i : Ins5} (h : m.stepI i = (1, m2)) : m2 = m := by
  obtain ⟨op, rd, ra, rb, im⟩ := i
  unfold Mach.stepI at h
  simp only at h
  repeat' split at h
  all_goals simp only [Prod.mk.injEq] at h
  all_goals first | omega | exact h.2.symm
theorem exit_of {m m2 : Mach} (h : m.step = (1, m2)) : m2 = m ∧ ∃ i, m.C[m.pc.toNat]? = some i := by
  unfold Mach.step at h
  split at h
  · rename_i i hi; exact ⟨stepI_exit h, i, hi⟩
  · simp only [Prod.mk.injEq] at h; omega
theorem MA.code {H : Heap} {ty : TypeId} {M W : Nat} {cp : Value} {m : Mach} (h : MA H ty M W cp m) {k : Nat} {i : Ins5} (hk : m.C[k]? = some i) : ∃ B, cp = .slice (some ⟨B, 0, none⟩) m.C.length (unk + 5) ∧ H.get B = some ⟨insC m.C, 48, false⟩ ∧ B < H.n := by
  rcases h.hC.at_ with ⟨_, e⟩ | ⟨B, e1, e2, e3, _⟩
  · rw [List.length_eq_zero_iff.1 e] at hk; simp at hk
  · exact ⟨B, e1, e2, e3⟩
theorem step_to {H : Heap} {M W : Nat} {cp : Value} {m m2 : Mach} {w : Int} (h : MA H 62 M W cp m) (hs : m.step = (w, m2)) : ACall Try.prog T8 21 #[.pointer (some ⟨M, 0, none⟩)] H fun r H' => r = .int .i64 w ∧ MA H' 62 M W cp m2 ∧ Fr2 H H' M W :=
  (step_ma h).mono fun r H' ⟨e, h1, h2⟩ => ⟨by rw [e, hs], by rw [hs] at h1; exact h1, h2⟩
theorem rstep_to {H : Heap} {M W : Nat} {cp : Value} {m m2 : Mach} {w : Int} (h : MA H 58 M W cp m) (hs : m.step = (w, m2)) : ACall Try.prog T8 25 #[.pointer (some ⟨M, 0, none⟩)] H fun r H' => r = .int .i64 w ∧ MA H' 58 M W cp m2 ∧ Fr2 H H' M W :=
  (rstep_ma h).mono fun r H' ⟨e, h1, h2⟩ => ⟨by rw [e, hs], by rw [hs] at h1; exact h1, h2⟩
theorem run_go {s n : Nat} {m m2 : Mach} (h : m.step = (0, m2)) : Mach.run (s + 1) n m = Mach.run s (n + 1) m2 := by simp [Mach.run, h]
theorem run_exit {s n : Nat} {m m2 : Mach} (h : m.step = (1, m2)) : Mach.run (s + 1) n m = ((1, m2.imm, n), m2) := by simp [Mach.run, h]
theorem run_bad {s n : Nat} {m m2 : Mach} {w : Int} (h : m.step = (w, m2)) (h0 : w ≠ 0) (h1 : w ≠ 1) : Mach.run (s + 1) n m = ((w, 0, n), m2) := by simp [Mach.run, h, h0, h1]
def runV (m : Mach) (st : Int) : Value := .tuple #[.int .i64 (Mach.run st.toNat 0 m).1.1, .int .u32 (Mach.run st.toNat 0 m).1.2.1, .int .i64 (((Mach.run st.toNat 0 m).1.2.2 : Nat) : Int)]
noncomputable def f11b : Code := Try.f11.body.getD .skip
theorem f11_body : Try.f11.body = some f11b := by kernel_rfl
theorem f11_fn : T8.fn 11 = some Try.f11 := by kernel_rfl
theorem run_ma {H : Heap} {M W : Nat} {cp : Value} {m0 : Mach} {st : Int} (h : MA H 62 M W cp m0) (h0 : -9223372036854775808 ≤ st) (h1 : st < 4611686018427387904) : ACall Try.prog T8 11 #[.pointer (some ⟨M, 0, none⟩), .int .i64 st] H fun r H' => r = runV m0 st ∧ MA H' 62 M W cp (Mach.run st.toNat 0 m0).2 ∧ Fr2 H H' M W := by
  refine acall_cf 38 (initTm 0 #[.pointer (some ⟨M, 0, none⟩), .int .i64 st]) rfl f11_fn f11_body rfl rfl ?_
  refine cf_go 14 ?_
  refine cf_loop 38 (cl (cl (cr (cl (cr f11b))))) [.blk 0, .next (cr (cr f11b))] (by kernel_rfl) (by kernel_rfl) (by kernel_rfl) (fun m s9 => ∃ (n : Nat) (m1 : Mach) (H1 : Heap), m = st.toNat - n ∧ n ≤ st.toNat ∧ Mach.run st.toNat 0 m0 = Mach.run (st.toNat - n) n m1 ∧ MA H1 62 M W cp m1 ∧ Fr2 H H1 M W ∧ Kn s9.tm [(0, .pointer (some ⟨M, 0, none⟩)), (1, .int .i64 st), (7, .int .i64 ((n : Nat) : Int))] ∧ s9.H = H1) (st.toNat) ⟨0, m0, H, by omega, by omega, by rw [Nat.sub_zero], h, Fr2.refl _ _ _, ⟨by kernel_rfl, by kernel_rfl, by kernel_rfl, True.intro⟩, by kernel_rfl⟩ ?_
  rintro m s9 ⟨n, m1, H1, hm, hn, hrun, hma, hfr, hkn, hH⟩ Rr1 hRr1
  refine cf_kn [(0, .pointer (some ⟨M, 0, none⟩)), (1, .int .i64 st), (7, .int .i64 ((n : Nat) : Int))] hkn hH fun tm => ?_
  by_cases hlt : ((n : Nat) : Int) < st
  · skip
    rcases hs : m1.step with ⟨w, m2⟩
    have hrn : Mach.run (st.toNat - n) n m1 = Mach.run ((st.toNat - (n + 1)) + 1) n m1 := by congr 1; omega
    rcases (by omega : w = 0 ∨ w = 1 ∨ (w ≠ 0 ∧ w ≠ 1)) with rfl | rfl | ⟨hw0, hw1⟩
    · skip
      refine cf_go 6 ?_
      refine cf_see 11 (.bool true) (see_bool (by kernel_rfl) ((decide_eq_true (by omega)) : ((decide (((n : Nat) : Int) < st))) = true)) ?_
      refine cf_go 10 ?_
      refine cf_call 15 21 #[.pointer (some ⟨M, 0, none⟩)] H1 (by kernel_rfl) (by kernel_rfl) (by kernel_rfl) (step_to hma hs) ?_
      rintro _ H1_ ⟨rfl, hma2, hfr2⟩
      refine cf_go 23 ?_
      refine cf_see 13 (.int .i64 ((n + 1 : Nat) : Int)) (see_int (x := (IntKind.i64.wrap (((n : Nat) : Int) + 1))) (by kernel_rfl) (w64 (by omega) (by omega) (by omega))) ?_
      refine cf_go 2 ?_
      refine cf_inv Rr1 (by kernel_rfl) (hRr1 _ ⟨st.toNat - (n + 1), by omega, n + 1, m2, H1_, rfl, by omega, by rw [hrun, hrn, run_go hs], hma2, hfr.trans hfr2, ⟨by kernel_rfl, by kernel_rfl, by kernel_rfl, True.intro⟩, by kernel_rfl⟩)
    · skip
      obtain ⟨rfl, ⟨op, rd, ra, rb, im⟩, hk⟩ := exit_of hs
      obtain ⟨B, rfl, gB, hB⟩ := hma.code hk
      obtain ⟨k, hpc⟩ : ∃ k : Nat, m2.pc = k := ⟨m2.pc.toNat, by have := hma.pc0; omega⟩
      refine cf_go 6 ?_
      refine cf_see 11 (.bool true) (see_bool (by kernel_rfl) ((decide_eq_true (by omega)) : ((decide (((n : Nat) : Int) < st))) = true)) ?_
      refine cf_go 10 ?_
      refine cf_call 15 21 #[.pointer (some ⟨M, 0, none⟩)] H1 (by kernel_rfl) (by kernel_rfl) (by kernel_rfl) (step_to hma hs) ?_
      rintro _ H2_ ⟨rfl, hma2, hfr2⟩
      have gM2 := hma2.hM
      rw [hpc] at gM2
      obtain ⟨B2, hB2, gB2, hBn2⟩ := hma2.code hk
      obtain rfl : B = B2 := by injection hB2 with e; injection e with e; injection e with e
      have hk2 : m2.C[k]? = some (op, rd, ra, rb, im) := by rw [hpc, Int.toNat_natCast] at hk; exact hk
      have hkl2 : k < m2.C.length := (List.getElem?_eq_some_iff.1 hk2).1
      refine cf_go 29 ?_
      refine cf_val 27 (.slice (some ⟨B, 0, none⟩) m2.C.length (unk + 5)) H2_ (by kernel_rfl) ((by kernel_rfl : _ = val (aload T8 22 (.pointer (some ⟨M, 17, none⟩)) H2_) H2_).trans (val_of ((aload_at gM2).trans (aloadC_cellB (n := 1) (by kernel_rfl) (by kernel_rfl) (mc_17 hma2.r16))))) ?_
      refine cf_go 3 ?_
      refine cf_val 31 (.int .i64 ((k : Nat) : Int)) H2_ (by kernel_rfl) ((by kernel_rfl : _ = val (aload T8 3 (.pointer (some ⟨M, 18, none⟩)) H2_) H2_).trans (val_of ((aload_at gM2).trans (aloadC_cellB (n := 1) (by kernel_rfl) (by kernel_rfl) (mc_18 hma2.r16))))) ?_
      refine cf_val 32 (.pointer (some ⟨B, 0 + k * 5, none⟩)) H2_ (by kernel_rfl) ((by kernel_rfl : _ = val (bif (k : Nat).blt m2.C.length then some (.pointer (some ⟨B, 0 + k * 5, none⟩)) else none) H2_).trans (by rw [show (k : Nat).blt m2.C.length = true from (by rw [blt_dec]; simp only [decide_eq_true_eq]; omega)]; rfl)) ?_
      refine cf_go 1 ?_
      refine cf_val 34 (.int .u32 im) H2_ (by kernel_rfl) ((by kernel_rfl : _ = val (aload T8 30 (.pointer (some ⟨B, 0 + k * 5 + 4, none⟩)) H2_) H2_).trans (val_of ((aload_at gB2).trans (aloadC_cellB (n := 1) (by kernel_rfl) (by kernel_rfl) (insC_im hk2))))) ?_
      refine cf_go 13 ?_
      refine cf_end (.tuple #[.int .i64 1, .int .u32 im, .int .i64 ((n : Nat) : Int)]) H2_ (by kernel_rfl) (by kernel_rfl) (by kernel_rfl) ?_
      have e : Mach.run st.toNat 0 m0 = ((1, im, n), m2) := by rw [hrun, hrn, run_exit hs]; simp only [Mach.imm, hk]
      exact ⟨by unfold runV; rw [e], by rw [e]; exact hma2, hfr.trans hfr2⟩
    · skip
      refine cf_go 6 ?_
      refine cf_see 11 (.bool true) (see_bool (by kernel_rfl) ((decide_eq_true (by omega)) : ((decide (((n : Nat) : Int) < st))) = true)) ?_
      refine cf_go 10 ?_
      refine cf_call 15 21 #[.pointer (some ⟨M, 0, none⟩)] H1 (by kernel_rfl) (by kernel_rfl) (by kernel_rfl) (step_to hma hs) ?_
      rintro _ H3_ ⟨rfl, hma2, hfr2⟩
      refine cf_go 12 ?_
      refine cf_see 20 (.bool false) (see_bool (by kernel_rfl) ((beq_eq_false_iff_ne.2 (by omega)) : (((w : Int) == 0)) = false)) ?_
      refine cf_go 7 ?_
      refine cf_see 22 (.bool false) (see_bool (by kernel_rfl) ((beq_eq_false_iff_ne.2 (by omega)) : (((w : Int) == 1)) = false)) ?_
      refine cf_go 20 ?_
      refine cf_end (.tuple #[.int .i64 w, .int .u32 0, .int .i64 ((n : Nat) : Int)]) H3_ (by kernel_rfl) (by kernel_rfl) (by kernel_rfl) ?_
      have e : Mach.run st.toNat 0 m0 = ((w, 0, n), m2) := by rw [hrun, hrn, run_bad hs hw0 hw1]
      exact ⟨by unfold runV; rw [e], by rw [e]; exact hma2, hfr.trans hfr2⟩
  · skip
    have hne : st.toNat - n = 0 := by omega
    by_cases hs0 : st < 0
    · skip
      refine cf_go 6 ?_
      refine cf_see 11 (.bool false) (see_bool (by kernel_rfl) ((decide_eq_false (by omega)) : ((decide (((n : Nat) : Int) < st))) = false)) ?_
      refine cf_go 12 ?_
      refine cf_see 37 (.int .i64 0) (see_int (x := (if 0 > st then 0 else st)) (by kernel_rfl) (if_pos (by omega))) ?_
      refine cf_go 6 ?_
      refine cf_end (.tuple #[.int .i64 5, .int .u32 0, .int .i64 0]) H1 (by kernel_rfl) (by kernel_rfl) (by kernel_rfl) ?_
      have e : Mach.run st.toNat 0 m0 = ((5, 0, n), m1) := hrun.trans (by rw [hne]; rfl)
      have e2 : (((n : Nat) : Int)) = 0 := by omega
      exact ⟨by unfold runV; rw [e, ← e2], by rw [e]; exact hma, hfr⟩
    · skip
      refine cf_go 6 ?_
      refine cf_see 11 (.bool false) (see_bool (by kernel_rfl) ((decide_eq_false (by omega)) : ((decide (((n : Nat) : Int) < st))) = false)) ?_
      refine cf_go 12 ?_
      refine cf_see 37 (.int .i64 st) (see_int (x := (if 0 > st then 0 else st)) (by kernel_rfl) (if_neg (by omega))) ?_
      refine cf_go 6 ?_
      refine cf_end (.tuple #[.int .i64 5, .int .u32 0, .int .i64 st]) H1 (by kernel_rfl) (by kernel_rfl) (by kernel_rfl) ?_
      have e : Mach.run st.toNat 0 m0 = ((5, 0, n), m1) := hrun.trans (by rw [hne]; rfl)
      have e2 : (((n : Nat) : Int)) = st := by omega
      exact ⟨by unfold runV; rw [e, ← e2], by rw [e]; exact hma, hfr⟩
noncomputable def f27b : Code := Try.f27.body.getD .skip
theorem f27_body : Try.f27.body = some f27b := by kernel_rfl
theorem f27_fn : T8.fn 27 = some Try.f27 := by kernel_rfl
theorem rrun_ma {H : Heap} {M W : Nat} {cp : Value} {m0 : Mach} {st : Int} (h : MA H 58 M W cp m0) (h0 : -9223372036854775808 ≤ st) (h1 : st < 4611686018427387904) : ACall Try.prog T8 27 #[.pointer (some ⟨M, 0, none⟩), .int .i64 st] H fun r H' => r = runV m0 st ∧ MA H' 58 M W cp (Mach.run st.toNat 0 m0).2 ∧ Fr2 H H' M W := by
  refine acall_cf 36 (initTm 0 #[.pointer (some ⟨M, 0, none⟩), .int .i64 st]) rfl f27_fn f27_body rfl rfl ?_
  refine cf_go 14 ?_
  refine cf_loop 36 (cl (cl (cl (cr (cr f27b))))) [.blk 0, .next (cr (cr (cr f27b)))] (by kernel_rfl) (by kernel_rfl) (by kernel_rfl) (fun m s9 => ∃ (n : Nat) (m1 : Mach) (H1 : Heap), m = st.toNat - n ∧ n ≤ st.toNat ∧ Mach.run st.toNat 0 m0 = Mach.run (st.toNat - n) n m1 ∧ MA H1 58 M W cp m1 ∧ Fr2 H H1 M W ∧ Kn s9.tm [(0, .pointer (some ⟨M, 0, none⟩)), (1, .int .i64 st), (7, .int .i64 ((n : Nat) : Int))] ∧ s9.H = H1) (st.toNat) ⟨0, m0, H, by omega, by omega, by rw [Nat.sub_zero], h, Fr2.refl _ _ _, ⟨by kernel_rfl, by kernel_rfl, by kernel_rfl, True.intro⟩, by kernel_rfl⟩ ?_
  rintro m s9 ⟨n, m1, H1, hm, hn, hrun, hma, hfr, hkn, hH⟩ Rr1 hRr1
  refine cf_kn [(0, .pointer (some ⟨M, 0, none⟩)), (1, .int .i64 st), (7, .int .i64 ((n : Nat) : Int))] hkn hH fun tm => ?_
  by_cases hlt : ((n : Nat) : Int) < st
  · skip
    rcases hs : m1.step with ⟨w, m2⟩
    have hrn : Mach.run (st.toNat - n) n m1 = Mach.run ((st.toNat - (n + 1)) + 1) n m1 := by congr 1; omega
    rcases (by omega : w = 0 ∨ w = 1 ∨ (w ≠ 0 ∧ w ≠ 1)) with rfl | rfl | ⟨hw0, hw1⟩
    · skip
      refine cf_go 6 ?_
      refine cf_see 11 (.bool true) (see_bool (by kernel_rfl) ((decide_eq_true (by omega)) : ((decide (((n : Nat) : Int) < st))) = true)) ?_
      refine cf_go 9 ?_
      refine cf_call 13 25 #[.pointer (some ⟨M, 0, none⟩)] H1 (by kernel_rfl) (by kernel_rfl) (by kernel_rfl) (rstep_to hma hs) ?_
      rintro _ H1_ ⟨rfl, hma2, hfr2⟩
      refine cf_go 26 ?_
      refine cf_see 34 (.int .i64 ((n + 1 : Nat) : Int)) (see_int (x := (IntKind.i64.wrap (((n : Nat) : Int) + 1))) (by kernel_rfl) (w64 (by omega) (by omega) (by omega))) ?_
      refine cf_go 3 ?_
      refine cf_inv Rr1 (by kernel_rfl) (hRr1 _ ⟨st.toNat - (n + 1), by omega, n + 1, m2, H1_, rfl, by omega, by rw [hrun, hrn, run_go hs], hma2, hfr.trans hfr2, ⟨by kernel_rfl, by kernel_rfl, by kernel_rfl, True.intro⟩, by kernel_rfl⟩)
    · skip
      obtain ⟨rfl, ⟨op, rd, ra, rb, im⟩, hk⟩ := exit_of hs
      obtain ⟨B, rfl, gB, hB⟩ := hma.code hk
      obtain ⟨k, hpc⟩ : ∃ k : Nat, m2.pc = k := ⟨m2.pc.toNat, by have := hma.pc0; omega⟩
      refine cf_go 6 ?_
      refine cf_see 11 (.bool true) (see_bool (by kernel_rfl) ((decide_eq_true (by omega)) : ((decide (((n : Nat) : Int) < st))) = true)) ?_
      refine cf_go 9 ?_
      refine cf_call 13 25 #[.pointer (some ⟨M, 0, none⟩)] H1 (by kernel_rfl) (by kernel_rfl) (by kernel_rfl) (rstep_to hma hs) ?_
      rintro _ H2_ ⟨rfl, hma2, hfr2⟩
      have gM2 := hma2.hM
      rw [hpc] at gM2
      obtain ⟨B2, hB2, gB2, hBn2⟩ := hma2.code hk
      obtain rfl : B = B2 := by injection hB2 with e; injection e with e; injection e with e
      have hk2 : m2.C[k]? = some (op, rd, ra, rb, im) := by rw [hpc, Int.toNat_natCast] at hk; exact hk
      have hkl2 : k < m2.C.length := (List.getElem?_eq_some_iff.1 hk2).1
      refine cf_go 17 ?_
      refine cf_val 20 (.slice (some ⟨B, 0, none⟩) m2.C.length (unk + 5)) H2_ (by kernel_rfl) ((by kernel_rfl : _ = val (aload T8 22 (.pointer (some ⟨M, 17, none⟩)) H2_) H2_).trans (val_of ((aload_at gM2).trans (aloadC_cellB (n := 1) (by kernel_rfl) (by kernel_rfl) (mc_17 hma2.r16))))) ?_
      refine cf_go 3 ?_
      refine cf_val 24 (.int .i64 ((k : Nat) : Int)) H2_ (by kernel_rfl) ((by kernel_rfl : _ = val (aload T8 3 (.pointer (some ⟨M, 18, none⟩)) H2_) H2_).trans (val_of ((aload_at gM2).trans (aloadC_cellB (n := 1) (by kernel_rfl) (by kernel_rfl) (mc_18 hma2.r16))))) ?_
      refine cf_val 25 (.pointer (some ⟨B, 0 + k * 5, none⟩)) H2_ (by kernel_rfl) ((by kernel_rfl : _ = val (bif (k : Nat).blt m2.C.length then some (.pointer (some ⟨B, 0 + k * 5, none⟩)) else none) H2_).trans (by rw [show (k : Nat).blt m2.C.length = true from (by rw [blt_dec]; simp only [decide_eq_true_eq]; omega)]; rfl)) ?_
      refine cf_go 1 ?_
      refine cf_val 27 (.int .u32 im) H2_ (by kernel_rfl) ((by kernel_rfl : _ = val (aload T8 30 (.pointer (some ⟨B, 0 + k * 5 + 4, none⟩)) H2_) H2_).trans (val_of ((aload_at gB2).trans (aloadC_cellB (n := 1) (by kernel_rfl) (by kernel_rfl) (insC_im hk2))))) ?_
      refine cf_go 12 ?_
      refine cf_end (.tuple #[.int .i64 1, .int .u32 im, .int .i64 ((n : Nat) : Int)]) H2_ (by kernel_rfl) (by kernel_rfl) (by kernel_rfl) ?_
      have e : Mach.run st.toNat 0 m0 = ((1, im, n), m2) := by rw [hrun, hrn, run_exit hs]; simp only [Mach.imm, hk]
      exact ⟨by unfold runV; rw [e], by rw [e]; exact hma2, hfr.trans hfr2⟩
    · skip
      refine cf_go 6 ?_
      refine cf_see 11 (.bool true) (see_bool (by kernel_rfl) ((decide_eq_true (by omega)) : ((decide (((n : Nat) : Int) < st))) = true)) ?_
      refine cf_go 9 ?_
      refine cf_call 13 25 #[.pointer (some ⟨M, 0, none⟩)] H1 (by kernel_rfl) (by kernel_rfl) (by kernel_rfl) (rstep_to hma hs) ?_
      rintro _ H3_ ⟨rfl, hma2, hfr2⟩
      refine cf_go 8 ?_
      refine cf_see 15 (.bool false) (see_bool (by kernel_rfl) ((beq_eq_false_iff_ne.2 (by omega)) : (((w : Int) == 1)) = false)) ?_
      refine cf_go 10 ?_
      refine cf_see 30 (.bool true) (see_bool (by kernel_rfl) ((bne_iff_ne.2 (by omega)) : (((w : Int) != 0)) = true)) ?_
      refine cf_go 18 ?_
      refine cf_end (.tuple #[.int .i64 w, .int .u32 0, .int .i64 ((n : Nat) : Int)]) H3_ (by kernel_rfl) (by kernel_rfl) (by kernel_rfl) ?_
      have e : Mach.run st.toNat 0 m0 = ((w, 0, n), m2) := by rw [hrun, hrn, run_bad hs hw0 hw1]
      exact ⟨by unfold runV; rw [e], by rw [e]; exact hma2, hfr.trans hfr2⟩
  · skip
    have hne : st.toNat - n = 0 := by omega
    by_cases hs0 : st < 0
    · skip
      refine cf_go 6 ?_
      refine cf_see 11 (.bool false) (see_bool (by kernel_rfl) ((decide_eq_false (by omega)) : ((decide (((n : Nat) : Int) < st))) = false)) ?_
      refine cf_go 17 ?_
      refine cf_end (.tuple #[.int .i64 5, .int .u32 0, .int .i64 ((n : Nat) : Int)]) H1 (by kernel_rfl) (by kernel_rfl) (by kernel_rfl) ?_
      have e : Mach.run st.toNat 0 m0 = ((5, 0, n), m1) := hrun.trans (by rw [hne]; rfl)
      exact ⟨by unfold runV; rw [e], by rw [e]; exact hma, hfr⟩
    · skip
      refine cf_go 6 ?_
      refine cf_see 11 (.bool false) (see_bool (by kernel_rfl) ((decide_eq_false (by omega)) : ((decide (((n : Nat) : Int) < st))) = false)) ?_
      refine cf_go 17 ?_
      refine cf_end (.tuple #[.int .i64 5, .int .u32 0, .int .i64 ((n : Nat) : Int)]) H1 (by kernel_rfl) (by kernel_rfl) (by kernel_rfl) ?_
      have e : Mach.run st.toNat 0 m0 = ((5, 0, n), m1) := hrun.trans (by rw [hne]; rfl)
      exact ⟨by unfold runV; rw [e], by rw [e]; exact hma, hfr⟩
end Hm
end Go.Proofs.Ytjhijpfbokklcaa
