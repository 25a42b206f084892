/- Chapter 4: run in two pieces, plainly. -/
import Derived.Test.YtjhijpfbokklcaaPo
namespace Go.Proofs.Ytjhijpfbokklcaa
open Go Go.Ev Go.RowKit
set_option linter.unusedVariables false
set_option linter.unusedSimpArgs false
set_option maxRecDepth 100000
namespace Hm
theorem stepI_stop (m : Mach) (i : Ins5) : (m.stepI i).1 ≠ 0 → (m.stepI i).2 = m ∧ ((m.stepI i).1 = 1 ∨ (m.stepI i).1 = 4) := by
  obtain ⟨op, rd, ra, rb, im⟩ := i
  unfold Mach.stepI
  simp only
  repeat' split
  all_goals simp
theorem step_stop (m : Mach) : m.step.1 ≠ 0 → m.step.2 = m ∧ (m.step.1 = 1 ∨ m.step.1 = 2 ∨ m.step.1 = 4) := by
  unfold Mach.step
  split
  · rename_i i _
    intro h
    have := stepI_stop m i h
    exact ⟨this.1, by rcases this.2 with h | h; exact .inl h; exact .inr (.inr h)⟩
  · intro _; exact ⟨rfl, .inr (.inl rfl)⟩
theorem run_from (t : Nat) : ∀ (n : Nat) (m : Mach), Mach.run t n m = (((Mach.run t 0 m).1.1, (Mach.run t 0 m).1.2.1, (Mach.run t 0 m).1.2.2 + n), (Mach.run t 0 m).2) := by
  induction t with
  | zero => intro n m; simp [Mach.run]
  | succ t ih =>
    intro n m
    simp only [Mach.run]
    split
    · rw [ih (n + 1), ih (0 + 1)]; simp; omega
    · split
      · simp
      · simp
theorem run_add (s : Nat) : ∀ (t n : Nat) (m : Mach), Mach.run (s + t) n m = if (Mach.run s n m).1.1 = 5 then Mach.run t (n + s) (Mach.run s n m).2 else Mach.run s n m := by
  induction s with
  | zero => intro t n m; simp [Mach.run]
  | succ s ih =>
    intro t n m
    rw [show s + 1 + t = (s + t) + 1 by omega]
    simp only [Mach.run]
    by_cases h0 : m.step.1 = 0
    · simp only [if_pos h0]
      rw [ih t (n + 1)]
      rw [show n + 1 + s = n + (s + 1) by omega]
    · obtain ⟨h1, h2⟩ := step_stop m h0
      simp only [if_neg h0]
      by_cases h3 : m.step.1 = 1
      · simp [if_pos h3]
      · have : ¬ m.step.1 = 5 := by omega
        simp [if_neg h3, this]
theorem run_cnt (s : Nat) : ∀ (n : Nat) (m : Mach), (Mach.run s n m).1.1 = 5 → (Mach.run s n m).1.2.2 = n + s := by
  induction s with
  | zero => intro n m _; rfl
  | succ s ih =>
    intro n m h
    simp only [Mach.run] at h ⊢
    by_cases h0 : m.step.1 = 0
    · simp only [if_pos h0] at h ⊢
      rw [ih _ _ h]; omega
    · obtain ⟨h1, h2⟩ := step_stop m h0
      simp only [if_neg h0] at h
      split at h
      · simp at h
      · simp only at h; omega
theorem run_le (s : Nat) : ∀ (n : Nat) (m : Mach), (Mach.run s n m).1.2.2 ≤ n + s := by
  induction s with
  | zero => intro n m; exact Nat.le_refl _
  | succ s ih =>
    intro n m
    simp only [Mach.run]
    split
    · have := ih (n + 1) m.step.2; omega
    · split <;> (simp only; omega)
theorem run_stop (s : Nat) : ∀ (n t : Nat) (m : Mach), (Mach.run s n m).1.1 ≠ 5 → Mach.run (t + 1) 0 (Mach.run s n m).2 = (((Mach.run s n m).1.1, (Mach.run s n m).1.2.1, 0), (Mach.run s n m).2) := by
  induction s with
  | zero => intro n t m h; exact absurd rfl h
  | succ s ih =>
    intro n t m h
    have e : Mach.run (s + 1) n m = if m.step.1 = 0 then Mach.run s (n + 1) m.step.2 else if m.step.1 = 1 then ((1, m.step.2.imm, n), m.step.2) else ((m.step.1, 0, n), m.step.2) := rfl
    rw [e] at h ⊢
    by_cases h0 : m.step.1 = 0
    · simp only [if_pos h0] at h ⊢
      exact ih (n + 1) t _ h
    · obtain ⟨h1, h2⟩ := step_stop m h0
      simp only [if_neg h0] at h ⊢
      by_cases h3 : m.step.1 = 1
      · simp only [if_pos h3, h1]
        simp [Mach.run, h3, h1]
      · simp only [if_neg h3, h1]
        simp [Mach.run, h3, h1, h0]
theorem pieces {n m : Nat} (hm : 1 ≤ m) {m0 m1 m2 m3 : Mach} {w x v i u h : Int} {k j g : Nat} (h1 : Mach.run n 0 m0 = ((w, x, k), m1)) (h2 : Mach.run m 0 m1 = ((v, i, j), m2)) (h3 : Mach.run (n + m) 0 m0 = ((u, h, g), m3)) :
    (w ≠ 5 → v = w ∧ j = 0) ∧ u = v ∧ g = k + j ∧ h = i ∧ m3 = m2 := by
  have ha := run_add n m 0 m0
  rw [h3, h1] at ha
  simp only at ha
  by_cases hw : w = 5
  · subst hw
    rw [if_pos rfl, run_from, h2] at ha
    simp only [Prod.mk.injEq] at ha
    have hc := run_cnt n 0 m0 (by rw [h1])
    rw [h1] at hc
    simp only at hc
    exact ⟨fun h => absurd rfl h, ha.1.1, by omega, ha.1.2.1, ha.2⟩
  · rw [if_neg hw] at ha
    simp only [Prod.mk.injEq] at ha
    have hs := run_stop n 0 (m - 1) m0 (by rw [h1]; exact hw)
    rw [show m - 1 + 1 = m by omega, h1, h2] at hs
    simp only [Prod.mk.injEq] at hs
    exact ⟨fun _ => ⟨hs.1.1, hs.1.2.2⟩, by omega, by omega, by rw [ha.1.2.1, hs.1.2.1], by rw [ha.2, hs.2]⟩
/-- Run, told by its parts. -/
theorem run_is {H : Heap} {M W : Nat} {cp : Value} {m m' : Mach} {st w x : Int} {k : Nat} (h : MA H 62 M W cp m) (h0 : -9223372036854775808 ≤ st) (h1 : st < 4611686018427387904) (hr : Mach.run st.toNat 0 m = ((w, x, k), m')) : ACall Try.prog T8 11 #[.pointer (some ⟨M, 0, none⟩), .int .i64 st] H fun r H' => r = .tuple #[.int .i64 w, .int .u32 x, .int .i64 ((k : Nat) : Int)] ∧ MA H' 62 M W cp m' ∧ Fr2 H H' M W :=
  (run_ma h h0 h1).mono fun r H' ⟨e, hm, f⟩ => ⟨by rw [e, runV, hr], by rw [hr] at hm; exact hm, f⟩
theorem rrun_is {H : Heap} {M W : Nat} {cp : Value} {m m' : Mach} {st w x : Int} {k : Nat} (h : MA H 58 M W cp m) (h0 : -9223372036854775808 ≤ st) (h1 : st < 4611686018427387904) (hr : Mach.run st.toNat 0 m = ((w, x, k), m')) : ACall Try.prog T8 27 #[.pointer (some ⟨M, 0, none⟩), .int .i64 st] H fun r H' => r = .tuple #[.int .i64 w, .int .u32 x, .int .i64 ((k : Nat) : Int)] ∧ MA H' 58 M W cp m' ∧ Fr2 H H' M W :=
  (rrun_ma h h0 h1).mono fun r H' ⟨e, hm, f⟩ => ⟨by rw [e, runV, hr], by rw [hr] at hm; exact hm, f⟩
theorem reg_at {H : Heap} {M W : Nat} {cp : Value} {m : Mach} (h : MA H 62 M W cp m) {k : Nat} (hk : k < 16) : ACall Try.prog T8 18 #[.pointer (some ⟨M, 0, none⟩), .int .i64 ((k : Nat) : Int)] H fun r H' => r = .int .u64 (m.reg (k : Int)) ∧ H = H' :=
  (reg_ma h (k : Int) (by omega)).mono fun r H' e => by rw [if_pos (by omega)] at e; exact e
theorem word_at {H : Heap} {M W : Nat} {cp : Value} {m : Mach} (h : MA H 62 M W cp m) {k : Nat} (hk : k < m.Wd.length) : ACall Try.prog T8 19 #[.pointer (some ⟨M, 0, none⟩), .int .i64 ((k : Nat) : Int)] H fun r H' => r = .int .u32 (m.word (k : Int)) ∧ H = H' :=
  (word_ma h (k : Int)).mono fun r H' e => by rw [if_pos (by omega)] at e; exact e
theorem run_len {s n : Nat} : ∀ {m : Mach}, ((Mach.run s n m).2).Wd.length = m.Wd.length := by
  induction s generalizing n with
  | zero => intro m; rfl
  | succ s ih =>
    intro m
    have hs : m.step.2.Wd.length = m.Wd.length := by
      unfold Mach.step
      split
      · rename_i i _
        obtain ⟨op, rd, ra, rb, im⟩ := i
        unfold Mach.stepI
        simp only
        repeat' split
        all_goals simp [Mach.to, Mach.setR]
      · rfl
    simp only [Mach.run]
    split
    · rw [ih]; exact hs
    · split <;> exact hs
/-- A row of numbers that came in. -/
structure NumsA (H : Heap) (kd : IntKind) (v : Value) (l : List Int) : Prop where
  at_ : (∃ cap, v = .slice none 0 cap ∧ l = []) ∨ ∃ A off cap cells e ro, v = .slice (some ⟨A, off, none⟩) l.length cap ∧ H.get A = some ⟨cells, e, ro⟩ ∧ A < H.n ∧ ∀ k (h : k < l.length), cells[off + k * 1]? = some (.int kd l[k])
theorem nums_row {H : Heap} {kd : IntKind} {e : TypeId} {a : Option Addr} {l : List Int} {cap : Nat} (h : (a = none ∧ l.length = 0 ∧ l.map (Value.int kd) = []) ∨ ∃ B off, a = some ⟨B, off, none⟩ ∧ H.get B = some ⟨l.map (Value.int kd), e, true⟩ ∧ B < H.n ∧ (l.map (Value.int kd) = [] ∨ off = 0)) : NumsA H kd (.slice a l.length cap) l := by
  rcases h with ⟨rfl, h0, _⟩ | ⟨B, off, rfl, g, hB, ho⟩
  · obtain rfl := List.length_eq_zero_iff.1 h0
    exact ⟨.inl ⟨cap, rfl, rfl⟩⟩
  · refine ⟨.inr ⟨B, off, cap, _, _, _, rfl, g, hB, fun k hk => ?_⟩⟩
    rcases ho with ho | rfl
    · simp at ho; subst ho; simp at hk
    · rw [show 0 + k * 1 = k by omega, List.getElem?_map, List.getElem?_eq_getElem hk]; rfl
theorem NumsA.keep {H H' : Heap} {kd : IntKind} {v : Value} {l : List Int} (h : NumsA H kd v l) (hn : H.n ≤ H'.n) (hg : ∀ b, b < H.n → H'.get b = H.get b) : NumsA H' kd v l := by
  rcases h.at_ with h | ⟨A, off, cap, cells, e, ro, h1, gA, hA, hb⟩
  · exact ⟨.inl h⟩
  · exact ⟨.inr ⟨A, off, cap, cells, e, ro, h1, by rw [hg A hA]; exact gA, Nat.lt_of_lt_of_le hA hn, hb⟩⟩
end Hm
end Go.Proofs.Ytjhijpfbokklcaa
