/- Chapter 19: what is lowered is right: the plain law. -/
import Derived.Test.YtgpphhdndmdlgaaKi
namespace Go.Proofs.Ytgpphhdndmdlgaa
open Go Go.Ev Go.RowKit
set_option linter.unusedVariables false
set_option linter.unusedSimpArgs false
namespace Ls
theorem madeB_mono {nd nr nd' nr' : Int} {x : II} {k : Int} (h : madeB nd nr x k = true) (h1 : nd ≤ nd') (h2 : nr ≤ nr') : madeB nd' nr' x k = true := by
 unfold madeB at h ⊢
 simp only [Bool.and_eq_true, decide_eq_true_eq] at h ⊢
 refine ⟨h.1, ?_⟩
 replace h := h.2
 by_cases e0 : x.1 = 0
 ·rw [if_pos e0] at h ⊢; exact h
 rw [if_neg e0] at h ⊢
 by_cases e1 : x.1 = 1
 ·rw [if_pos e1] at h ⊢; simp only [Bool.and_eq_true, decide_eq_true_eq] at h ⊢; omega
 rw [if_neg e1] at h ⊢
 by_cases e2 : x.1 = 2
 ·rw [if_pos e2] at h ⊢; simp only [Bool.and_eq_true, decide_eq_true_eq] at h ⊢; omega
 rw [if_neg e2] at h ⊢
 exact h
structure Cr (c : List II) (nd nr : Int) : Prop where
 code : ∀ (j : Nat) (x : II), c[j]? = some x → madeB nd nr x j = true
 imm : ∀ x ∈ c, 0 ≤ x.2.2.2.2 ∧ x.2.2.2.2 < 4294967296
def Vs (c : List II) (l : List Int) : Prop := ∀ x ∈ l, 0 ≤ x ∧ x < (c.length : Int)
theorem Cr.mono {c : List II} {nd nr nd' nr' : Int} (h : Cr c nd nr) (h1 : nd ≤ nd') (h2 : nr ≤ nr') : Cr c nd' nr' := ⟨fun j x hx => madeB_mono (h.code j x hx) h1 h2, h.imm⟩
theorem Cr.snoc {c : List II} {nd nr : Int} (h : Cr c nd nr) {x : II} (hx : madeB nd nr x (c.length : Nat) = true) (hi : 0 ≤ x.2.2.2.2 ∧ x.2.2.2.2 < 4294967296) : Cr (c ++ [x]) nd nr := by
 refine ⟨fun j y hy => ?_, fun y hy => ?_⟩
 ·rw [List.getElem?_append] at hy
  split at hy
  ·exact h.code j y hy
  ·have : j = c.length := by
     have := (List.getElem?_eq_some_iff.1 hy).1
     simp at this; omega
   subst this
   simp at hy
   subst hy
   exact hx
 ·rcases List.mem_append.1 hy with hy | hy
  ·exact h.imm y hy
  ·simp at hy; subst hy; exact hi
theorem Vs.app {c : List II} {l : List Int} (h : Vs c l) (m : List II) : Vs (c ++ m) l := fun x hx => by
 have := h x hx
 rw [List.length_append]
 omega
theorem pop_d {c c1 : List II} {d d1 : List Int} {nd nr m1 n1 : Int} (h : popC 1 c d nd = (c1, d1, m1, n1)) (hc : Cr c nd nr) (hd : Vs c d) (h0 : 0 ≤ nd) (h1 : nd < 1000000) :
    Cr c1 m1 nr ∧ Vs c1 d1 ∧ (0 ≤ n1 ∧ n1 < (c1.length : Int)) ∧ c.length ≤ c1.length ∧ c1.length ≤ c.length + 1 ∧ nd ≤ m1 ∧ m1 ≤ nd + 1 ∧ ((d1.length : Int) - m1 = (d.length : Int) - nd - 1) ∧ (∀ l, Vs c l → Vs c1 l) := by
 rcases nil_or_snoc d with rfl | ⟨l, x, rfl⟩
 ·rw [popC_nil] at h
  cases h
  refine ⟨(hc.mono (by omega) (Int.le_refl _)).snoc ?_ ⟨h0, by simp; omega⟩, fun x hx => (by cases hx), ⟨by omega, by simp; omega⟩, by simp, by simp, by omega, by omega, by simp; omega, fun l hl => hl.app _⟩
  unfold madeB; simp; omega
 ·rw [popC_snoc] at h
  cases h
  have := hd n1 (by simp)
  exact ⟨hc, fun x hx => hd x (by simp [hx]), this, Nat.le_refl _, by omega, Int.le_refl _, by omega, by simp; omega, fun l hl => hl⟩
theorem pop_r {c c1 : List II} {d d1 : List Int} {nd nr m1 n1 : Int} (h : popC 2 c d nr = (c1, d1, m1, n1)) (hc : Cr c nd nr) (hd : Vs c d) (h0 : 0 ≤ nr) (h1 : nr < 1000000) :
    Cr c1 nd m1 ∧ Vs c1 d1 ∧ (0 ≤ n1 ∧ n1 < (c1.length : Int)) ∧ c.length ≤ c1.length ∧ c1.length ≤ c.length + 1 ∧ nr ≤ m1 ∧ m1 ≤ nr + 1 ∧ ((d1.length : Int) - m1 = (d.length : Int) - nr - 1) ∧ (∀ l, Vs c l → Vs c1 l) := by
 rcases nil_or_snoc d with rfl | ⟨l, x, rfl⟩
 ·rw [popC_nil] at h
  cases h
  refine ⟨(hc.mono (Int.le_refl _) (by omega)).snoc ?_ ⟨h0, by simp; omega⟩, fun x hx => (by cases hx), ⟨by omega, by simp; omega⟩, by simp, by simp, by omega, by omega, by simp; omega, fun l hl => hl.app _⟩
  unfold madeB; simp; omega
 ·rw [popC_snoc] at h
  cases h
  have := hd n1 (by simp)
  exact ⟨hc, fun x hx => hd x (by simp [hx]), this, Nat.le_refl _, by omega, Int.le_refl _, by omega, by simp; omega, fun l hl => hl⟩
theorem Vs.add {c : List II} {l m : List Int} (h : Vs c l) (h2 : Vs c m) : Vs c (l ++ m) := fun x hx => (List.mem_append.1 hx).elim (h x) (h2 x)
theorem vs1 {c : List II} {a : Int} (h : 0 ≤ a ∧ a < (c.length : Int)) : Vs c [a] := fun x hx => by simp at hx; subst hx; exact h
theorem vs2 {c : List II} {a b : Int} (h : 0 ≤ a ∧ a < (c.length : Int)) (h2 : 0 ≤ b ∧ b < (c.length : Int)) : Vs c [a, b] := fun x hx => by simp at hx; rcases hx with rfl | rfl <;> assumption
theorem vs3 {c : List II} {a b d : Int} (h : 0 ≤ a ∧ a < (c.length : Int)) (h2 : 0 ≤ b ∧ b < (c.length : Int)) (h3 : 0 ≤ d ∧ d < (c.length : Int)) : Vs c [a, b, d] := fun x hx => by simp at hx; rcases hx with rfl | rfl | rfl <;> assumption
structure LwI (k j : Nat) (w : LW) : Prop where
 cr : Cr w.c w.nd w.nr
 d : Vs w.c w.d
 r : Vs w.c w.r
 cl : w.c.length ≤ 4 * k
 nd : 0 ≤ w.nd ∧ w.nd ≤ 2 * (k : Int)
 nr : 0 ≤ w.nr ∧ w.nr ≤ (k : Int)
 dl : (w.d.length : Int) - w.nd ≤ k
 rl : (w.r.length : Int) - w.nr ≤ k
 dle : w.d.length ≤ 3 * k
 rle : w.r.length ≤ k
 hd : 0 ≤ w.hd ∧ w.hd ≤ (j : Int)
 hr : 0 ≤ w.hr ∧ w.hr ≤ (j : Int)
 fl : w.fl = -1 ∨ (0 ≤ w.fl ∧ w.fl < (w.c.length : Int))
 tg : w.tg = -1 ∨ (0 ≤ w.tg ∧ w.tg < (w.c.length : Int))
 bt : w.br = 0 ∨ (33 ≤ w.br ∧ w.br ≤ 37 ∧ w.tg = -1)
theorem popE (op : Int) (c : List II) (d : List Int) (nd : Int) : ∃ c1 d1 m1 n1, popC op c d nd = (c1, d1, m1, n1) := ⟨_, _, _, _, rfl⟩
theorem made_const {c : List II} {nd nr n : Int} (h : Cr c nd nr) (hn : 0 ≤ n ∧ n < 4294967296) : Cr (c ++ [(0, ((c.length : Nat) : Int), 0, 0, n)]) nd nr := h.snoc (by unfold madeB; simp) hn
theorem made_alu {c : List II} {nd nr a b op t : Int} (h : Cr c nd nr) (ht : (t = 3 ∧ 16 ≤ op ∧ op ≤ 23) ∨ (t = 4 ∧ ((16 ≤ op ∧ op ≤ 23) ∨ op = 25))) (ha : 0 ≤ a ∧ a < (c.length : Int)) (hb : 0 ≤ b ∧ b < (c.length : Int)) : Cr (c ++ [(t, ((c.length : Nat) : Int), a, b, op)]) nd nr := h.snoc (by unfold madeB valB; rcases ht with ⟨rfl, _⟩ | ⟨rfl, _⟩ <;> simp <;> omega) (by simp; omega)
theorem oneB_inv {k : Nat} {op n nx : Int} {w : LW} (h : LwI k k w) (hk : k ≤ 100) (hp : plainB op = true) (hn : 0 ≤ n ∧ n < 4294967296) (hx : 0 ≤ nx ∧ nx < 4294967296) (hb : w.br = 0 ∧ w.tg = -1) : LwI (k + 1) k (oneB op n nx w) := by
 obtain ⟨c, d, r, nd, hd, nr, hr, fl, tg, br⟩ := w
 obtain ⟨a1, a2, a3, a4, a5, a6, a7, a8, a9, a10, a11, a12, a13, a14, a15⟩ := h
 simp only at a1 a2 a3 a4 a5 a6 a7 a8 a9 a10 a11 a12 a13 a14 a15 hb
 obtain ⟨rfl, rfl⟩ := hb
 obtain ⟨c1, d1, m1, n1, hq⟩ := popE 1 c d nd
 obtain ⟨b1, b2, b3, b4, b5, b6, b7, b8, b9⟩ := pop_d hq a1 a2 a5.1 (by omega)
 have bl := popC_len hq
 obtain ⟨c2, d2, m2, n2, hq2⟩ := popE 1 c1 d1 m1
 obtain ⟨e1, e2, e3, e4, e5, e6, e7, e8, e9⟩ := pop_d hq2 b1 b2 (by omega) (by omega)
 have bl2 := popC_len hq2
 obtain ⟨cr, r1, mr, nr1, hqr⟩ := popE 2 c r nr
 obtain ⟨g1, g2, g3, g4, g5, g6, g7, g8, g9⟩ := pop_r hqr a1 a3 a6.1 (by omega)
 have gl := popC_len hqr
 have fw : ∀ {c' : List II}, c.length ≤ c'.length → fl = -1 ∨ (0 ≤ fl ∧ fl < (c'.length : Int)) := fun q => by omega
 have lit : ∀ v : Int, (0 ≤ v ∧ v < 4294967296) → Cr (c ++ [(0, ((c.length : Nat) : Int), 0, 0, v)]) nd nr := fun v hv => made_const a1 hv
 rcases op_cases hp with ho | ho | ho | ho | ho | ho | ho | ho | ho | ho | ho | ho | ho | ho | ho | ho
 ·rw [one_nop (.inl ho)]
  exact ⟨a1, a2, a3, by simp only; omega, by simp only; omega, by simp only; omega, by simp only; omega, by simp only; omega, by simp only; omega, by simp only; omega, a11, a12, a13, a14, .inl rfl⟩
 ·rw [one_lit (.inl ho)]
  exact ⟨lit n hn, (a2.app _).add (vs1 (by simp; omega)), a3.app _, by simp; omega, by simp only; omega, by simp only; omega, by simp; omega, by simp only; omega, by simp; omega, by simp only; omega, a11, a12, fw (by simp), .inl rfl, .inl rfl⟩
 ·rw [one_lit (.inr ho)]
  exact ⟨lit n hn, (a2.app _).add (vs1 (by simp; omega)), a3.app _, by simp; omega, by simp only; omega, by simp only; omega, by simp; omega, by simp only; omega, by simp; omega, by simp only; omega, a11, a12, fw (by simp), .inl rfl, .inl rfl⟩
 ·rw [one_dup ho hq]
  exact ⟨b1, b2.add (vs2 b3 b3), b9 _ a3, by simp only; omega, by simp only; omega, by simp only; omega, by simp; omega, by simp only; omega, by simp; omega, by simp only; omega, a11, a12, fw b4, .inl rfl, .inl rfl⟩
 ·rw [one_drop ho hq]
  exact ⟨b1, b2, b9 _ a3, by simp only; omega, by simp only; omega, by simp only; omega, by simp only; omega, by simp only; omega, by simp only; omega, by simp only; omega, a11, a12, fw b4, .inl rfl, .inl rfl⟩
 ·rw [one_swap ho hq hq2]
  exact ⟨e1, e2.add (vs2 (by omega) e3), e9 _ (b9 _ a3), by simp only; omega, by simp only; omega, by simp only; omega, by simp; omega, by simp only; omega, by simp; omega, by simp only; omega, a11, a12, fw (Nat.le_trans b4 e4), .inl rfl, .inl rfl⟩
 ·rw [one_over ho hq hq2]
  exact ⟨e1, e2.add (vs3 e3 (by omega) e3), e9 _ (b9 _ a3), by simp only; omega, by simp only; omega, by simp only; omega, by simp; omega, by simp only; omega, by simp; omega, by simp only; omega, a11, a12, fw (Nat.le_trans b4 e4), .inl rfl, .inl rfl⟩
 ·rw [one_tor ho hq]
  exact ⟨b1, b2, (b9 _ a3).add (vs1 b3), by simp only; omega, by simp only; omega, by simp only; omega, by simp only; omega, by simp; omega, by simp only; omega, by simp; omega, a11, a12, fw b4, .inl rfl, .inl rfl⟩
 ·rw [one_fromr ho hqr]
  exact ⟨g1, (g9 _ a2).add (vs1 g3), g2, by simp only; omega, by simp only; omega, by simp only; omega, by simp; omega, by simp only; omega, by simp; omega, by simp only; omega, a11, a12, fw g4, .inl rfl, .inl rfl⟩
 ·rw [one_alu ho hq hq2]
  have f1 := made_alu (t := 4) (a := n2) (b := n1) (op := op) e1 (.inr ⟨rfl, .inl ho⟩) e3 (by omega)
  have f2 := made_alu (t := 3) (a := n2) (b := n1) (op := op) f1 (.inl ⟨rfl, ho⟩) (by simp; omega) (by simp; omega)
  exact ⟨f2, ((e2.app _).app _).add (vs1 (by simp; omega)), ((e9 _ (b9 _ a3)).app _).app _, by simp; omega, by simp only; omega, by simp only; omega, by simp; omega, by simp only; omega, by simp; omega, by simp only; omega, a11, a12, .inr (by simp; omega), .inl rfl, .inl rfl⟩
 ·rw [one_cmp ho hq hq2]
  have f1 := made_alu (t := 4) (a := n2) (b := n1) (op := op) e1 (.inr ⟨rfl, .inr ho⟩) e3 (by omega)
  exact ⟨f1, e2.app _, (e9 _ (b9 _ a3)).app _, by simp; omega, by simp only; omega, by simp only; omega, by simp only; omega, by simp only; omega, by simp only; omega, by simp only; omega, a11, a12, .inr (by simp; omega), .inl rfl, .inl rfl⟩
 ·rw [one_nop (.inr ho)]
  exact ⟨a1, a2, a3, by simp only; omega, by simp only; omega, by simp only; omega, by simp only; omega, by simp only; omega, by simp only; omega, by simp only; omega, a11, a12, a13, a14, .inl rfl⟩
 ·rw [one_jcc ho]
  exact ⟨a1, a2, a3, by simp only; omega, by simp only; omega, by simp only; omega, by simp only; omega, by simp only; omega, by simp only; omega, by simp only; omega, a11, a12, a13, .inl rfl, .inr ⟨ho.1, ho.2, rfl⟩⟩
 ·rw [one_call ho]
  exact ⟨lit nx hx, a2.app _, (a3.app _).add (vs1 (by simp; omega)), by simp; omega, by simp only; omega, by simp only; omega, by simp only; omega, by simp; omega, by simp only; omega, by simp; omega, a11, a12, fw (by simp), .inl rfl, .inl rfl⟩
 ·rw [one_ret ho hqr]
  exact ⟨g1, g9 _ a2, g2, by simp only; omega, by simp only; omega, by simp only; omega, by simp only; omega, by simp only; omega, by simp only; omega, by simp only; omega, a11, a12, fw g4, .inr g3, .inl rfl⟩
 ·rw [one_jmpi ho hq]
  exact ⟨b1, b2, b9 _ a3, by simp only; omega, by simp only; omega, by simp only; omega, by simp only; omega, by simp only; omega, by simp only; omega, by simp only; omega, a11, a12, fw b4, .inr b3, .inl rfl⟩
theorem topW_inv {k j : Nat} {w : LW} (h : LwI k j w) (hj : j ≤ k) : LwI k k (topW w) := by
 obtain ⟨a1, a2, a3, a4, a5, a6, a7, a8, a9, a10, a11, a12, a13, a14, a15⟩ := h
 exact ⟨a1, a2, a3, a4, a5, a6, a7, a8, a9, a10, by simp only [topW]; omega, by simp only [topW]; omega, a13, a14, a15⟩
theorem oneP_z {op n nx : Int} {w : LW} (hp : plainB op = true) (he : endsB op = false) (hb : w.br = 0 ∧ w.tg = -1) : (oneP op n nx w).br = 0 ∧ (oneP op n nx w).tg = -1 := by
 obtain ⟨c, d, r, nd, hd, nr, hr, fl, tg, br⟩ := w
 simp only at hb
 obtain ⟨rfl, rfl⟩ := hb
 have h2 : ¬ (32 ≤ op ∧ op ≤ 40) := fun q => by
  unfold endsB at he
  simp at he
  omega
 obtain ⟨c1, d1, m1, n1, hq⟩ := popE 1 c d nd
 obtain ⟨c2, d2, m2, n2, hq2⟩ := popE 1 c1 d1 m1
 obtain ⟨cr, r1, mr, nr1, hqr⟩ := popE 2 c r nr
 unfold oneP
 rcases op_cases hp with ho | ho | ho | ho | ho | ho | ho | ho | ho | ho | ho | ho | ho | ho | ho | ho
 ·rw [one_nop (.inl ho)]; exact ⟨rfl, rfl⟩
 ·rw [one_lit (.inl ho)]; exact ⟨rfl, rfl⟩
 ·rw [one_lit (.inr ho)]; exact ⟨rfl, rfl⟩
 ·rw [one_dup ho hq]; exact ⟨rfl, rfl⟩
 ·rw [one_drop ho hq]; exact ⟨rfl, rfl⟩
 ·rw [one_swap ho hq hq2]; exact ⟨rfl, rfl⟩
 ·rw [one_over ho hq hq2]; exact ⟨rfl, rfl⟩
 ·rw [one_tor ho hq]; exact ⟨rfl, rfl⟩
 ·rw [one_fromr ho hqr]; exact ⟨rfl, rfl⟩
 ·rw [one_alu ho hq hq2]; exact ⟨rfl, rfl⟩
 ·rw [one_cmp ho hq hq2]; exact ⟨rfl, rfl⟩
 all_goals omega
theorem u32_wrap_in (x : Int) : 0 ≤ IntKind.u32.wrap x ∧ IntKind.u32.wrap x < 4294967296 := by
 have : IntKind.u32.wrap x = x % 4294967296 := by rfl
 rw [this]; omega
theorem low_inv {l : List (Int × Int)} {pc : Int} (hok : OkIns l) (hn : ∀ x ∈ l, 0 ≤ x.2 ∧ x.2 < 4294967296) : ∀ k, k ≤ l.length → LwI k k (lowW l pc k) ∧ (k < l.length → (lowW l pc k).br = 0 ∧ (lowW l pc k).tg = -1) := by
 intro k
 induction k with
 | zero => exact fun _ => ⟨⟨⟨fun j x hx => (by simp [lowW, low0] at hx), fun x hx => (by simp [lowW, low0] at hx)⟩, fun x hx => (by simp [lowW, low0] at hx), fun x hx => (by simp [lowW, low0] at hx), by simp [lowW, low0], by simp [lowW, low0], by simp [lowW, low0], by simp [lowW, low0], by simp [lowW, low0], by simp [lowW, low0], by simp [lowW, low0], by simp [lowW, low0], by simp [lowW, low0], .inl rfl, .inl rfl, .inl rfl⟩, fun _ => ⟨rfl, rfl⟩⟩
 | succ k ih =>
  intro hk
  obtain ⟨h1, h2⟩ := ih (by omega)
  have h2 := h2 (by omega)
  have hx : l[k]? = some (l[k]'(by omega)) := List.getElem?_eq_getElem _
  generalize l[k]'(by omega) = x at hx
  obtain ⟨q1, q2, q3⟩ := hok.ok k x hx
  have hm := hok.most
  rw [lowW_succ hx]
  refine ⟨topW_inv (oneB_inv h1 (by omega) q2 (hn x (List.mem_of_getElem? hx)) (u32_wrap_in _) h2) (by omega), fun hlt => oneP_z q2 (q3 hlt) h2⟩
theorem low_b {l : List (Int × Int)} {pc : Int} (hok : OkIns l) (hn : ∀ x ∈ l, 0 ≤ x.2 ∧ x.2 < 4294967296) : ∀ k, k ≤ l.length → LwB (lowW l pc k) := fun k hk => by
 obtain ⟨h, _⟩ := low_inv (pc := pc) hok hn k hk
 have hm := hok.most
 have := h.cl; have := h.dle; have := h.rle; have := h.nd; have := h.nr
 exact ⟨by omega, by omega, by omega, by omega, by omega⟩
theorem low_right {l : List (Int × Int)} {pc : Int} (hok : OkIns l) (hn : ∀ x ∈ l, 0 ≤ x.2 ∧ x.2 < 4294967296) : RightP (lowW l pc l.length).c (lowW l pc l.length).d (lowW l pc l.length).r (lowW l pc l.length).nd (lowW l pc l.length).nr (lowW l pc l.length).hd (lowW l pc l.length).hr (lowW l pc l.length).fl (lowW l pc l.length).tg (lowW l pc l.length).br (l.length : Int) ((lowW l pc l.length).c.length : Int) := by
 obtain ⟨h, _⟩ := low_inv (pc := pc) hok hn l.length (Nat.le_refl _)
 have hm := hok.most; have h1 := hok.one
 have a1 := h.cl; have a2 := h.nd; have a3 := h.nr; have a4 := h.hd; have a5 := h.hr
 exact ⟨rfl, by omega, by omega, by omega, by omega, by omega, by omega, h.cr.code, fun k x hx => valB_iff.2 (h.d x (List.mem_of_getElem? hx)), fun k x hx => valB_iff.2 (h.r x (List.mem_of_getElem? hx)), h.fl.imp id valB_iff.2, h.tg.imp id valB_iff.2, h.bt⟩
end Ls
end Go.Proofs.Ytgpphhdndmdlgaa
