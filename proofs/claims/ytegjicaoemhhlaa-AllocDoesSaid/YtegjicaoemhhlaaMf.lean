/- Chapter 21: what is lowered is right: the plain law. -/
import Derived.Test.YtegjicaoemhhlaaMd
import Derived.Test.YtegjicaoemhhlaaMe
import Derived.Test.YtegjicaoemhhlaaJj
set_option linter.unusedVariables false
set_option linter.unusedSimpArgs false
namespace Go.Proofs.Ytegjicaoemhhlaa
open Go Go.Ev Go.RowKit
set_option maxRecDepth 100000
namespace Ls
theorem madeB_mono {nd nr nd' nr' : Int} {x : II} {k : Int} (h : madeB nd nr x k = true) (h1 : nd ≤ nd') (h2 : nr ≤ nr') : madeB nd' nr' x k = true := by
 unfold madeB at h ⊢;simp only [Bool.and_eq_true, decide_eq_true_eq] at h ⊢;refine ⟨h.1, ?_⟩;replace h := h.2
 by_cases e0 : x.1 = 0
 ·rw [if_pos e0] at h ⊢; exact h
 rw [if_neg e0] at h ⊢
 by_cases e1 : x.1 = 1
 ·rw [if_pos e1] at h ⊢; simp only [Bool.and_eq_true, decide_eq_true_eq] at h ⊢; omega
 rw [if_neg e1] at h ⊢
 by_cases e2 : x.1 = 2
 ·rw [if_pos e2] at h ⊢; simp only [Bool.and_eq_true, decide_eq_true_eq] at h ⊢; omega
 rw [if_neg e2] at h ⊢;exact h
structure Cr (c : List II) (nd nr : Int) : Prop where
 code : ∀ (j : Nat) (x : II), c[j]? = some x → madeB nd nr x j = true
 imm : ∀ x ∈ c, 0 ≤ x.2.2.2.2 ∧ x.2.2.2.2 < 4294967296
def Vs (c : List II) (l : List Int) : Prop := ∀ x ∈ l, 0 ≤ x ∧ x < (c.length : Int)
theorem Cr.mono {c : List II} {nd nr nd' nr' : Int} (h : Cr c nd nr) (h1 : nd ≤ nd') (h2 : nr ≤ nr') : Cr c nd' nr' := ⟨fun j x hx => madeB_mono (h.code j x hx) h1 h2, h.imm⟩
theorem Cr.snoc {c : List II} {nd nr : Int} (h : Cr c nd nr) {x : II} (hx : madeB nd nr x (c.length : Nat) = true) (hi : 0 ≤ x.2.2.2.2 ∧ x.2.2.2.2 < 4294967296) : Cr (c ++ [x]) nd nr := by
 refine ⟨fun j y hy => ?_, fun y hy => ?_⟩
 ·rw [List.getElem?_append] at hy;split at hy
  ·exact h.code j y hy
  ·have : j = c.length := by
     have := (List.getElem?_eq_some_iff.1 hy).1;simp at this; omega
   subst this;simp at hy;subst hy;exact hx
 ·rcases List.mem_append.1 hy with hy | hy
  ·exact h.imm y hy
  ·simp at hy; subst hy; exact hi
theorem Vs.app {c : List II} {l : List Int} (h : Vs c l) (m : List II) : Vs (c ++ m) l := fun x hx => by
 have := h x hx;rw [List.length_append];omega
theorem pop_d {c c1 : List II} {d d1 : List Int} {nd nr m1 n1 : Int} (h : popC 1 c d nd = (c1, d1, m1, n1)) (hc : Cr c nd nr) (hd : Vs c d) (h0 : 0 ≤ nd) (h1 : nd < 1000000) :
    Cr c1 m1 nr ∧ Vs c1 d1 ∧ (0 ≤ n1 ∧ n1 < (c1.length : Int)) ∧ c.length ≤ c1.length ∧ c1.length ≤ c.length + 1 ∧ nd ≤ m1 ∧ m1 ≤ nd + 1 ∧ ((d1.length : Int) - m1 = (d.length : Int) - nd - 1) ∧ (∀ l, Vs c l → Vs c1 l) := by
 rcases nil_or_snoc d with rfl | ⟨l, x, rfl⟩
 ·rw [popC_nil] at h;cases h;refine ⟨(hc.mono zo (Int.le_refl _)).snoc ?_ ⟨h0, by simp; omega⟩, fun x hx => (by cases hx), ⟨by omega, by simp; omega⟩, by simp, by simp, by omega, by omega, by simp; omega, fun l hl => hl.app _⟩;unfold madeB; simp; omega
 ·rw [popC_snoc] at h;cases h;have := hd n1 (by simp);exact ⟨hc, fun x hx => hd x (by simp [hx]), this, Nat.le_refl _, by omega, Int.le_refl _, by omega, by simp; omega, fun l hl => hl⟩
theorem pop_r {c c1 : List II} {d d1 : List Int} {nd nr m1 n1 : Int} (h : popC 2 c d nr = (c1, d1, m1, n1)) (hc : Cr c nd nr) (hd : Vs c d) (h0 : 0 ≤ nr) (h1 : nr < 1000000) :
    Cr c1 nd m1 ∧ Vs c1 d1 ∧ (0 ≤ n1 ∧ n1 < (c1.length : Int)) ∧ c.length ≤ c1.length ∧ c1.length ≤ c.length + 1 ∧ nr ≤ m1 ∧ m1 ≤ nr + 1 ∧ ((d1.length : Int) - m1 = (d.length : Int) - nr - 1) ∧ (∀ l, Vs c l → Vs c1 l) := by
 rcases nil_or_snoc d with rfl | ⟨l, x, rfl⟩
 ·rw [popC_nil] at h;cases h;refine ⟨(hc.mono (Int.le_refl _) zo).snoc ?_ ⟨h0, by simp; omega⟩, fun x hx => (by cases hx), ⟨by omega, by simp; omega⟩, by simp, by simp, by omega, by omega, by simp; omega, fun l hl => hl.app _⟩;unfold madeB; simp; omega
 ·rw [popC_snoc] at h;cases h;have := hd n1 (by simp);exact ⟨hc, fun x hx => hd x (by simp [hx]), this, Nat.le_refl _, by omega, Int.le_refl _, by omega, by simp; omega, fun l hl => hl⟩
theorem Vs.add {c : List II} {l m : List Int} (h : Vs c l) (h2 : Vs c m) : Vs c (l ++ m) := fun x hx => (List.mem_append.1 hx).elim (h x) (h2 x)
theorem vs1 {c : List II} {a : Int} (h : 0 ≤ a ∧ a < (c.length : Int)) : Vs c [a] := fun x hx => by simp at hx; subst hx; exact h
theorem vs2 {c : List II} {a b : Int} (h : 0 ≤ a ∧ a < (c.length : Int)) (h2 : 0 ≤ b ∧ b < (c.length : Int)) : Vs c [a, b] := fun x hx => by simp at hx; rcases hx with rfl | rfl <;> assumption
theorem vs3 {c : List II} {a b d : Int} (h : 0 ≤ a ∧ a < (c.length : Int)) (h2 : 0 ≤ b ∧ b < (c.length : Int)) (h3 : 0 ≤ d ∧ d < (c.length : Int)) : Vs c [a, b, d] := fun x hx => by simp at hx; rcases hx with rfl | rfl | rfl <;> assumption
structure LwI (k j : Nat) (w : LW) : Prop where
 cr : Cr w.c w.nd w.nr
 d : Vs w.c w.d
 r : Vs w.c w.r
 cl : w.c.length ≤ 4 * k
 nd : 0 ≤ w.nd ∧ w.nd ≤ 2 * (k : Int)
 nr : 0 ≤ w.nr ∧ w.nr ≤ (k : Int)
 dl : (w.d.length : Int) - w.nd ≤ k
 rl : (w.r.length : Int) - w.nr ≤ k
 dle : w.d.length ≤ 3 * k
 rle : w.r.length ≤ k
 hd : 0 ≤ w.hd ∧ w.hd ≤ (j : Int)
 hr : 0 ≤ w.hr ∧ w.hr ≤ (j : Int)
 fl : w.fl = -1 ∨ (0 ≤ w.fl ∧ w.fl < (w.c.length : Int))
 tg : w.tg = -1 ∨ (0 ≤ w.tg ∧ w.tg < (w.c.length : Int))
 bt : w.br = 0 ∨ (33 ≤ w.br ∧ w.br ≤ 37 ∧ w.tg = -1)
theorem popE (op : Int) (c : List II) (d : List Int) (nd : Int) : ∃ c1 d1 m1 n1, popC op c d nd = (c1, d1, m1, n1) := ⟨_, _, _, _, rfl⟩
theorem mkd_const {c : List II} {nd nr n : Int} (h : Cr c nd nr) (hn : 0 ≤ n ∧ n < 4294967296) : Cr (c ++ [(0, (c.length : Int), 0, 0, n)]) nd nr := h.snoc (by unfold madeB; simp) hn
theorem mkd_alu {c : List II} {nd nr a b op t : Int} (h : Cr c nd nr) (ht : (t = 3 ∧ 16 ≤ op ∧ op ≤ 23) ∨ (t = 4 ∧ ((16 ≤ op ∧ op ≤ 23) ∨ op = 25))) (ha : 0 ≤ a ∧ a < (c.length : Int)) (hb : 0 ≤ b ∧ b < (c.length : Int)) : Cr (c ++ [(t, (c.length : Int), a, b, op)]) nd nr := h.snoc (by unfold madeB valB; rcases ht with ⟨rfl, _⟩ | ⟨rfl, _⟩ <;> simp <;> omega) (by simp; omega)
theorem oneB_inv {k : Nat} {op n nx : Int} {w : LW} (h : LwI k k w) (hk : k ≤ 100) (hp : plainB op = true) (hn : 0 ≤ n ∧ n < 4294967296) (hx : 0 ≤ nx ∧ nx < 4294967296) (hb : w.br = 0 ∧ w.tg = -1) : LwI (k + 1) k (oneB op n nx w) := by
 obtain ⟨c, d, r, nd, hd, nr, hr, fl, tg, br⟩ := w;obtain ⟨a1, a2, a3, a4, a5, a6, a7, a8, a9, a10, a11, a12, a13, a14, a15⟩ := h;simp only at a1 a2 a3 a4 a5 a6 a7 a8 a9 a10 a11 a12 a13 a14 a15 hb;obtain ⟨rfl, rfl⟩ := hb;obtain ⟨c1, d1, m1, n1, hq⟩ := popE 1 c d nd;obtain ⟨b1, b2, b3, b4, b5, b6, b7, b8, b9⟩ := pop_d hq a1 a2 a5.1 (by omega);have bl := popC_len hq;obtain ⟨c2, d2, m2, n2, hq2⟩ := popE 1 c1 d1 m1;obtain ⟨e1, e2, e3, e4, e5, e6, e7, e8, e9⟩ := pop_d hq2 b1 b2 (by omega) (by omega);have bl2 := popC_len hq2;obtain ⟨cr, r1, mr, nr1, hqr⟩ := popE 2 c r nr;obtain ⟨g1, g2, g3, g4, g5, g6, g7, g8, g9⟩ := pop_r hqr a1 a3 a6.1 (by omega);have gl := popC_len hqr;have fw : ∀ {c' : List II}, c.length ≤ c'.length → fl = -1 ∨ (0 ≤ fl ∧ fl < (c'.length : Int)) := fun q => by omega
 have lit : ∀ v : Int, (0 ≤ v ∧ v < 4294967296) → Cr (c ++ [(0, (c.length : Int), 0, 0, v)]) nd nr := fun v hv => mkd_const a1 hv
 rcases op_cases hp with ho | ho | ho | ho | ho | ho | ho | ho | ho | ho | ho | ho | ho | ho | ho | ho
 ·rw [one_nop (.inl ho)];exact ⟨a1, a2, a3, by simp only; omega, by simp only; omega, by simp only; omega, by simp only; omega, by simp only; omega, by simp only; omega, by simp only; omega, a11, a12, a13, a14, .inl rfl⟩
 ·rw [one_lit (.inl ho)];exact ⟨lit n hn, (a2.app _).add (vs1 (by simp; omega)), a3.app _, by simp; omega, by simp only; omega, by simp only; omega, by simp; omega, by simp only; omega, by simp; omega, by simp only; omega, a11, a12, fw (by simp), .inl rfl, .inl rfl⟩
 ·rw [one_lit (.inr ho)];exact ⟨lit n hn, (a2.app _).add (vs1 (by simp; omega)), a3.app _, by simp; omega, by simp only; omega, by simp only; omega, by simp; omega, by simp only; omega, by simp; omega, by simp only; omega, a11, a12, fw (by simp), .inl rfl, .inl rfl⟩
 ·rw [one_dup ho hq];exact ⟨b1, b2.add (vs2 b3 b3), b9 _ a3, by simp only; omega, by simp only; omega, by simp only; omega, by simp; omega, by simp only; omega, by simp; omega, by simp only; omega, a11, a12, fw b4, .inl rfl, .inl rfl⟩
 ·rw [one_drop ho hq];exact ⟨b1, b2, b9 _ a3, by simp only; omega, by simp only; omega, by simp only; omega, by simp only; omega, by simp only; omega, by simp only; omega, by simp only; omega, a11, a12, fw b4, .inl rfl, .inl rfl⟩
 ·rw [one_swap ho hq hq2];exact ⟨e1, e2.add (vs2 (by omega) e3), e9 _ (b9 _ a3), by simp only; omega, by simp only; omega, by simp only; omega, by simp; omega, by simp only; omega, by simp; omega, by simp only; omega, a11, a12, fw (Nat.le_trans b4 e4), .inl rfl, .inl rfl⟩
 ·rw [one_over ho hq hq2];exact ⟨e1, e2.add (vs3 e3 (by omega) e3), e9 _ (b9 _ a3), by simp only; omega, by simp only; omega, by simp only; omega, by simp; omega, by simp only; omega, by simp; omega, by simp only; omega, a11, a12, fw (Nat.le_trans b4 e4), .inl rfl, .inl rfl⟩
 ·rw [one_tor ho hq];exact ⟨b1, b2, (b9 _ a3).add (vs1 b3), by simp only; omega, by simp only; omega, by simp only; omega, by simp only; omega, by simp; omega, by simp only; omega, by simp; omega, a11, a12, fw b4, .inl rfl, .inl rfl⟩
 ·rw [one_fromr ho hqr];exact ⟨g1, (g9 _ a2).add (vs1 g3), g2, by simp only; omega, by simp only; omega, by simp only; omega, by simp; omega, by simp only; omega, by simp; omega, by simp only; omega, a11, a12, fw g4, .inl rfl, .inl rfl⟩
 ·rw [one_alu ho hq hq2];have f1 := mkd_alu (t := 4) (a := n2) (b := n1) (op := op) e1 (.inr ⟨rfl, .inl ho⟩) e3 (by omega);have f2 := mkd_alu (t := 3) (a := n2) (b := n1) (op := op) f1 (.inl ⟨rfl, ho⟩) (by simp; omega) (by simp; omega);exact ⟨f2, ((e2.app _).app _).add (vs1 (by simp; omega)), ((e9 _ (b9 _ a3)).app _).app _, by simp; omega, by simp only; omega, by simp only; omega, by simp; omega, by simp only; omega, by simp; omega, by simp only; omega, a11, a12, .inr (by simp; omega), .inl rfl, .inl rfl⟩
 ·rw [one_cmp ho hq hq2];have f1 := mkd_alu (t := 4) (a := n2) (b := n1) (op := op) e1 (.inr ⟨rfl, .inr ho⟩) e3 (by omega);exact ⟨f1, e2.app _, (e9 _ (b9 _ a3)).app _, by simp; omega, by simp only; omega, by simp only; omega, by simp only; omega, by simp only; omega, by simp only; omega, by simp only; omega, a11, a12, .inr (by simp; omega), .inl rfl, .inl rfl⟩
 ·rw [one_nop (.inr ho)];exact ⟨a1, a2, a3, by simp only; omega, by simp only; omega, by simp only; omega, by simp only; omega, by simp only; omega, by simp only; omega, by simp only; omega, a11, a12, a13, a14, .inl rfl⟩
 ·rw [one_jcc ho];exact ⟨a1, a2, a3, by simp only; omega, by simp only; omega, by simp only; omega, by simp only; omega, by simp only; omega, by simp only; omega, by simp only; omega, a11, a12, a13, .inl rfl, .inr ⟨ho.1, ho.2, rfl⟩⟩
 ·rw [one_call ho];exact ⟨lit nx hx, a2.app _, (a3.app _).add (vs1 (by simp; omega)), by simp; omega, by simp only; omega, by simp only; omega, by simp only; omega, by simp; omega, by simp only; omega, by simp; omega, a11, a12, fw (by simp), .inl rfl, .inl rfl⟩
 ·rw [one_ret ho hqr];exact ⟨g1, g9 _ a2, g2, by simp only; omega, by simp only; omega, by simp only; omega, by simp only; omega, by simp only; omega, by simp only; omega, by simp only; omega, a11, a12, fw g4, .inr g3, .inl rfl⟩
 ·rw [one_jmpi ho hq];exact ⟨b1, b2, b9 _ a3, by simp only; omega, by simp only; omega, by simp only; omega, by simp only; omega, by simp only; omega, by simp only; omega, by simp only; omega, a11, a12, fw b4, .inr b3, .inl rfl⟩
theorem topW_inv {k j : Nat} {w : LW} (h : LwI k j w) (hj : j ≤ k) : LwI k k (topW w) := by
 obtain ⟨a1, a2, a3, a4, a5, a6, a7, a8, a9, a10, a11, a12, a13, a14, a15⟩ := h;exact ⟨a1, a2, a3, a4, a5, a6, a7, a8, a9, a10, by simp only [topW]; omega, by simp only [topW]; omega, a13, a14, a15⟩
theorem oneP_z {op n nx : Int} {w : LW} (hp : plainB op = true) (he : endsB op = false) (hb : w.br = 0 ∧ w.tg = -1) : (oneP op n nx w).br = 0 ∧ (oneP op n nx w).tg = -1 := by
 obtain ⟨c, d, r, nd, hd, nr, hr, fl, tg, br⟩ := w;simp only at hb;obtain ⟨rfl, rfl⟩ := hb
 have h2 : ¬ (32 ≤ op ∧ op ≤ 40) := fun q => by
  unfold endsB at he;simp at he;omega
 obtain ⟨c1, d1, m1, n1, hq⟩ := popE 1 c d nd;obtain ⟨c2, d2, m2, n2, hq2⟩ := popE 1 c1 d1 m1;obtain ⟨cr, r1, mr, nr1, hqr⟩ := popE 2 c r nr;unfold oneP;rcases op_cases hp with ho | ho | ho | ho | ho | ho | ho | ho | ho | ho | ho | ho | ho | ho | ho | ho
 ·rw [one_nop (.inl ho)]; exact ⟨rfl, rfl⟩
 ·rw [one_lit (.inl ho)]; exact ⟨rfl, rfl⟩
 ·rw [one_lit (.inr ho)]; exact ⟨rfl, rfl⟩
 ·rw [one_dup ho hq]; exact ⟨rfl, rfl⟩
 ·rw [one_drop ho hq]; exact ⟨rfl, rfl⟩
 ·rw [one_swap ho hq hq2]; exact ⟨rfl, rfl⟩
 ·rw [one_over ho hq hq2]; exact ⟨rfl, rfl⟩
 ·rw [one_tor ho hq]; exact ⟨rfl, rfl⟩
 ·rw [one_fromr ho hqr]; exact ⟨rfl, rfl⟩
 ·rw [one_alu ho hq hq2]; exact ⟨rfl, rfl⟩
 ·rw [one_cmp ho hq hq2]; exact ⟨rfl, rfl⟩
 all_goals omega
theorem low_inv {l : List (Int × Int)} {pc : Int} (hok : OkIns l) (hn : ∀ x ∈ l, 0 ≤ x.2 ∧ x.2 < 4294967296) : ∀ k, k ≤ l.length → LwI k k (lowW l pc k) ∧ (k < l.length → (lowW l pc k).br = 0 ∧ (lowW l pc k).tg = -1) := by
 intro k
 induction k with
 | zero => exact fun _ => ⟨⟨⟨fun j x hx => (by simp [lowW, low0] at hx), fun x hx => (by simp [lowW, low0] at hx)⟩, fun x hx => (by simp [lowW, low0] at hx), fun x hx => (by simp [lowW, low0] at hx), by simp [lowW, low0], by simp [lowW, low0], by simp [lowW, low0], by simp [lowW, low0], by simp [lowW, low0], by simp [lowW, low0], by simp [lowW, low0], by simp [lowW, low0], by simp [lowW, low0], .inl rfl, .inl rfl, .inl rfl⟩, fun _ => ⟨rfl, rfl⟩⟩
 | succ k ih =>
  intro hk;obtain ⟨h1, h2⟩ := ih (by omega);have h2 := h2 (by omega);have hx : l[k]? = some (l[k]'(by omega)) := List.getElem?_eq_getElem _;generalize l[k]'(by omega) = x at hx;obtain ⟨q1, q2, q3⟩ := hok.ok k x hx;have hm := hok.most;rw [lowW_succ hx];refine ⟨topW_inv (oneB_inv h1 zo q2 (hn x (List.mem_of_getElem? hx)) (u32_wrap_in _) h2) zo, fun hlt => oneP_z q2 (q3 hlt) h2⟩
theorem low_b {l : List (Int × Int)} {pc : Int} (hok : OkIns l) (hn : ∀ x ∈ l, 0 ≤ x.2 ∧ x.2 < 4294967296) : ∀ k, k ≤ l.length → LwB (lowW l pc k) := fun k hk => by
 obtain ⟨h, _⟩ := low_inv (pc := pc) hok hn k hk;have hm := hok.most;have := h.cl; have := h.dle; have := h.rle; have := h.nd; have := h.nr;exact ⟨by omega, by omega, by omega, by omega, by omega⟩
theorem low_right {l : List (Int × Int)} {pc : Int} (hok : OkIns l) (hn : ∀ x ∈ l, 0 ≤ x.2 ∧ x.2 < 4294967296) : RightP (lowW l pc l.length).c (lowW l pc l.length).d (lowW l pc l.length).r (lowW l pc l.length).nd (lowW l pc l.length).nr (lowW l pc l.length).hd (lowW l pc l.length).hr (lowW l pc l.length).fl (lowW l pc l.length).tg (lowW l pc l.length).br (l.length : Int) ((lowW l pc l.length).c.length : Int) := by
 obtain ⟨h, _⟩ := low_inv (pc := pc) hok hn l.length (Nat.le_refl _);have hm := hok.most; have h1 := hok.one;have a1 := h.cl; have a2 := h.nd; have a3 := h.nr; have a4 := h.hd; have a5 := h.hr;exact ⟨rfl, by omega, by omega, by omega, by omega, by omega, by omega, h.cr.code, fun k x hx => valB_iff.2 (h.d x (List.mem_of_getElem? hx)), fun k x hx => valB_iff.2 (h.r x (List.mem_of_getElem? hx)), h.fl.imp id valB_iff.2, h.tg.imp id valB_iff.2, h.bt⟩
def Le (u v : List Bool) : Prop := ∀ i : Nat, u[i]? = some true → v[i]? = some true
theorem Le.trans {u v w : List Bool} (h : Le u v) (k : Le v w) : Le u w := fun i q => k i (h i q)
theorem mark_le (u : List Bool) (x : Int) : Le u (mark u x) := fun i q => by
 unfold mark;split
 ·exact q
 ·rw [List.getElem?_set];split
  ·rename_i e; subst e; rw [if_pos (List.getElem?_eq_some_iff.1 q).1]
  ·exact q
theorem outS_le : ∀ (xs : List Int) (u : List Bool), Le u (outS u xs)
 | [], u => fun i q => q
 | x :: xs, u => (mark_le u x).trans (outS_le xs (mark u x))
theorem mark_in {u : List Bool} {x : Int} (h0 : 0 ≤ x) (h : x < (u.length : Int)) : (mark u x)[x.toNat]? = some true := by
 unfold mark;rw [if_neg (by omega), List.getElem?_set, if_pos rfl, if_pos (by omega)]
theorem outS_in : ∀ (xs : List Int) (u : List Bool) (x : Int), x ∈ xs → 0 ≤ x → x < (u.length : Int) → (outS u xs)[x.toNat]? = some true
 | y :: xs, u, x, hm, h0, h => by
  rcases List.mem_cons.1 hm with rfl | hm
  ·exact outS_le xs (mark u x) _ (mark_in h0 h)
  ·exact outS_in xs (mark u y) x hm h0 (by simpa using h)
theorem mark_ne {u : List Bool} {x : Int} {i : Nat} (h : x.toNat ≠ i) : (mark u x)[i]? = u[i]? := by
 unfold mark;split
 ·rfl
 ·rw [List.getElem?_set, if_neg h]
theorem outS_ne : ∀ (xs : List Int) (u : List Bool) (i : Nat), (∀ x ∈ xs, x.toNat ≠ i) → (outS u xs)[i]? = u[i]?
 | [], u, i, h => rfl
 | x :: xs, u, i, h => (outS_ne xs (mark u x) i fun y hy => h y (List.mem_cons_of_mem _ hy)).trans (mark_ne (h x (List.mem_cons_self ..)))
theorem bkStep_le (v : List Bool) (i : Nat) (x : II) : Le v (bkStep v i x) := by
 unfold bkStep;split
 ·exact outS_le _ _
 ·exact fun i q => q
theorem bkU_le (c : List II) (u : List Bool) : ∀ j, Le u (bkU c u j)
 | 0 => fun i q => q
 | j + 1 => by
  unfold bkU;split
  ·exact (bkU_le c u j).trans (bkStep_le _ _ _)
  ·exact bkU_le c u j
theorem bkU_closed {c : List II} {u : List Bool} {nd nr : Int} (hu : u.length = c.length) (hc : ∀ (j : Nat) (x : II), c[j]? = some x → madeB nd nr x j = true) : ∀ j, j ≤ c.length → ∀ (i : Nat) (x : II), c.length - j ≤ i → c[i]? = some x → (x.1 = 3 ∨ x.1 = 4) → (bkU c u j)[i]? = some true → (bkU c u j)[x.2.2.1.toNat]? = some true ∧ (bkU c u j)[x.2.2.2.1.toNat]? = some true := by
 intro j
 induction j with
 | zero => intro _ i x hi hx; have := (List.getElem?_eq_some_iff.1 hx).1; omega
 | succ j ih =>
  intro hj i x hi hx hop hb;have hm : c[c.length - (j + 1)]? = some (c[c.length - (j + 1)]'(by omega)) := List.getElem?_eq_getElem _;generalize c[c.length - (j + 1)]'(by omega) = y at hm
  have e : bkU c u (j + 1) = bkStep (bkU c u j) (c.length - (j + 1)) y := by
   show (match c[c.length - (j + 1)]? with | some x => _ | none => _) = _;rw [hm]
  rw [e] at hb ⊢;have hlen : (bkU c u j).length = c.length := by rw [bkU_len, hu]
  have same : ∀ q, c.length - (j + 1) ≤ q → (bkStep (bkU c u j) (c.length - (j + 1)) y)[q]? = (bkU c u j)[q]? := fun q hq => by
   unfold bkStep;split
   ·rename_i hs;obtain ⟨⟨y1, y2⟩, y3, y4⟩ := made_ab (hc _ y hm) hs.2;exact outS_ne _ _ _ fun z hz => by simp at hz; rcases hz with rfl | rfl <;> omega
   ·rfl
  rw [same i hi] at hb
  by_cases hq : c.length - j ≤ i
  ·obtain ⟨g1, g2⟩ := ih (by omega) i x hq hx hop hb;exact ⟨bkStep_le _ _ _ _ g1, bkStep_le _ _ _ _ g2⟩
  ·have hie : i = c.length - (j + 1) := by omega
   subst hie;rw [hm] at hx; cases hx;obtain ⟨⟨y1, y2⟩, y3, y4⟩ := made_ab (hc _ _ hm) hop;rw [bkStep_yes hb hop];exact ⟨outS_in _ _ _ (by simp) y1 (by omega), outS_in _ _ _ (by simp) y3 (by omega)⟩
structure PI (nd nr : Int) (u : List Bool) (k : Nat) (q : List Int × List II) : Prop where
 code : ∀ (j : Nat) (y : II), q.2[j]? = some y → madeB nd nr y j = true
 imm : ∀ y ∈ q.2, 0 ≤ y.2.2.2.2 ∧ y.2.2.2.2 < 4294967296
 pl : ∀ i : Nat, i < k → u[i]? = some true → ∃ p, q.1[i]? = some p ∧ 0 ≤ p ∧ p < (q.2.length : Int)
theorem plS_inv {c : List II} {u : List Bool} {nd nr : Int} (hu : u.length = c.length) (hc : ∀ (j : Nat) (x : II), c[j]? = some x → madeB nd nr x j = true) (hi : ∀ x ∈ c, 0 ≤ x.2.2.2.2 ∧ x.2.2.2.2 < 4294967296)
    (hcl : ∀ (i : Nat) (x : II), c[i]? = some x → (x.1 = 3 ∨ x.1 = 4) → u[i]? = some true → u[x.2.2.1.toNat]? = some true ∧ u[x.2.2.2.1.toNat]? = some true) : ∀ k, k ≤ c.length → PI nd nr u k (plS c u k) := by
 intro k
 induction k with
 | zero => exact fun _ => ⟨fun j y h => (by simp [plS] at h), fun y h => (by simp [plS] at h), fun i h => by omega⟩
 | succ k ih =>
  intro hk;have h := ih (by omega);have hx : c[k]? = some (c[k]'(by omega)) := List.getElem?_eq_getElem _;generalize c[k]'(by omega) = x at hx;have hb : u[k]? = some (u[k]'(by omega)) := List.getElem?_eq_getElem _;generalize u[k]'(by omega) = b at hb;cases b with
  | false =>
   rw [plS_no hx hb];refine ⟨h.code, h.imm, fun i hik hu' => ?_⟩;rcases (by omega : i < k ∨ i = k) with q | rfl
   ·exact h.pl i q hu'
   ·rw [hb] at hu'; cases hu'
  | true =>
   rw [plS_yes hx hb];have hpl := plS_len c u k;generalize hP : (plS c u k).1 = P at *;generalize hC : (plS c u k).2 = C at *;have hh := h;have hm := hc k x hx
   have hplX : madeB nd nr (plX (P.set k (C.length : Int)) (C.length : Int) x) (C.length : Nat) = true ∧ (plX (P.set k (C.length : Int)) (C.length : Int) x).2.2.2.2 = x.2.2.2.2 := by
    by_cases hop : x.1 = 3 ∨ x.1 = 4
    ·obtain ⟨⟨y1, y2⟩, y3, y4⟩ := made_ab hm hop;obtain ⟨g1, g2⟩ := hcl k x hx hop hb;obtain ⟨p1, r1, r2, r3⟩ := h.pl _ (by omega) g1;obtain ⟨p2, r4, r5, r6⟩ := h.pl _ (by omega) g2;rw [hP] at r1 r4; rw [hC] at r3 r6;rw [plX_yes (A := x.2.2.1.toNat) (B := x.2.2.2.1.toNat) (b1 := p1) (b2 := p2) hop (by omega) (by omega) (by rw [List.getElem?_set, if_neg (by omega)]; exact r1) (by rw [List.getElem?_set, if_neg (by omega)]; exact r4)];refine ⟨?_, rfl⟩;obtain ⟨o, dd, a, b', im⟩ := x;have := (made_cases hm).2;unfold madeB valB;simp only at hop this ⊢;rcases hop with rfl | rfl <;> simp <;> omega
    ·rw [plX_no hop];refine ⟨?_, rfl⟩;obtain ⟨o, dd, a, b', im⟩ := x;have := (made_cases hm).2;unfold madeB;simp only at hop this ⊢;rcases (by omega : o = 0 ∨ o = 1 ∨ o = 2) with rfl | rfl | rfl <;> simp <;> omega
   refine ⟨fun j y hy => ?_, fun y hy => ?_, fun i hik hu' => ?_⟩
   ·simp only at hy;rw [List.getElem?_append] at hy;split at hy
    ·exact h.code j y (by rw [hC]; exact hy)
    ·have : j = C.length := by
       have := (List.getElem?_eq_some_iff.1 hy).1;simp at this; omega
     subst this;simp at hy;subst hy;exact hplX.1
   ·simp only at hy;rcases List.mem_append.1 hy with hy | hy
    ·exact h.imm y (by rw [hC]; exact hy)
    ·simp at hy; subst hy; rw [hplX.2]; exact hi x (List.mem_of_getElem? hx)
   ·simp only;rcases (by omega : i < k ∨ i = k) with q | rfl
    ·obtain ⟨p, r1, r2, r3⟩ := h.pl i q hu';rw [hP] at r1; rw [hC] at r3;exact ⟨p, by rw [List.getElem?_set, if_neg (by omega)]; exact r1, r2, by simp; omega⟩
    ·exact ⟨(C.length : Int), by rw [List.getElem?_set, if_pos rfl, if_pos (by omega)], by omega, by simp; omega⟩
theorem sweep_right {c : List II} {od rd : List Int} {nd nr hd hr fl tg br ct : Int} (hR : RightP c od rd nd nr hd hr fl tg br ct (c.length : Int)) (hi : ∀ x ∈ c, 0 ≤ x.2.2.2.2 ∧ x.2.2.2.2 < 4294967296) :
    RightP (swC c od rd fl tg) (movL (swP c od rd fl tg) od) (movL (swP c od rd fl tg) rd) nd nr hd hr (movO (swP c od rd fl tg) fl) (movO (swP c od rd fl tg) tg) br ct ((swC c od rd fl tg).length : Int) ∧ (∀ x ∈ swC c od rd fl tg, 0 ≤ x.2.2.2.2 ∧ x.2.2.2.2 < 4294967296) := by
 have hu0 : (outS (outS (outS (List.replicate c.length false) od) rd) [fl, tg]).length = c.length := by simp
 have hul : (swU c od rd fl tg).length = c.length := by unfold swU; rw [bkU_len, hu0]
 have hI := plS_inv (u := swU c od rd fl tg) hul hR.code hi (fun i x hx hop hb => bkU_closed hu0 hR.code c.length (Nat.le_refl _) i x (by omega) hx hop hb) c.length (Nat.le_refl _);have base : Le (outS (outS (outS (List.replicate c.length false) od) rd) [fl, tg]) (swU c od rd fl tg) := bkU_le _ _ _
 have at_ : ∀ x : Int, (0 ≤ x ∧ x < (c.length : Int)) → (swU c od rd fl tg)[x.toNat]? = some true → valB (movI (swP c od rd fl tg) x) ((swC c od rd fl tg).length : Int) = true := fun x hx hm => by
  obtain ⟨p, r1, r2, r3⟩ := hI.pl x.toNat (by omega) hm;refine valB_iff.2 ?_;unfold movI;rw [show (swP c od rd fl tg).getD x.toNat 0 = p by rw [List.getD_eq_getElem?_getD]; unfold swP; rw [r1]; rfl];exact ⟨r2, r3⟩
 have hod : ∀ x ∈ od, valB (movI (swP c od rd fl tg) x) ((swC c od rd fl tg).length : Int) = true := fun x hx => by
  obtain ⟨k, hk⟩ := List.mem_iff_getElem?.1 hx;have hv := valB_iff.1 (hR.od_ k x hk);exact at_ x hv (base _ (outS_le _ _ _ (outS_le _ _ _ (outS_in _ _ _ hx hv.1 (by simpa using hv.2)))))
 have hrd : ∀ x ∈ rd, valB (movI (swP c od rd fl tg) x) ((swC c od rd fl tg).length : Int) = true := fun x hx => by
  obtain ⟨k, hk⟩ := List.mem_iff_getElem?.1 hx;have hv := valB_iff.1 (hR.rd_ k x hk);exact at_ x hv (base _ (outS_le _ _ _ (outS_in _ _ _ hx hv.1 (by simpa using hv.2))))
 have ho : ∀ x ∈ [fl, tg], (x = -1 ∨ valB x (c.length : Int) = true) → movO (swP c od rd fl tg) x = -1 ∨ valB (movO (swP c od rd fl tg) x) ((swC c od rd fl tg).length : Int) = true := fun x hx hv => by
  unfold movO
  by_cases hx1 : x = -1
  ·rw [if_pos hx1]; exact .inl rfl
  ·rw [if_neg hx1];have hv := valB_iff.1 (hv.resolve_left hx1);exact .inr (at_ x hv (base _ (outS_in _ _ _ hx hv.1 (by simpa using hv.2))))
 refine ⟨⟨rfl, Nat.le_trans (plS_le c _ _) hR.len, hR.nd_, hR.nr_, hR.hd_, hR.hr_, hR.ct_, hI.code, fun k x hx => ?_, fun k x hx => ?_, ho fl (by simp) hR.fl_, ho tg (by simp) hR.tg_, hR.br_.imp id fun ⟨h1, h2, h3⟩ => ⟨h1, h2, by unfold movO; rw [if_pos h3]⟩⟩, hI.imm⟩
 ·obtain ⟨y, hy, rfl⟩ := List.mem_map.1 (List.mem_of_getElem? hx);exact hod y hy
 ·obtain ⟨y, hy, rfl⟩ := List.mem_map.1 (List.mem_of_getElem? hx);exact hrd y hy
def Mid (l : List (Int × Int)) : Prop := ∀ x ∈ l, rightI x.1 x.2 = true ∧ plainB x.1 = true ∧ endsB x.1 = false ∧ 0 ≤ x.2 ∧ x.2 < 4294967296
theorem mid_nil : Mid [] := fun x hx => by cases hx
theorem Mid.snoc {l : List (Int × Int)} (h : Mid l) {o n : Int} (h1 : rightI o n = true) (h2 : 0 ≤ n ∧ n < 4294967296) (h3 : plainB o = true) (h4 : endsB o = false) : Mid (l ++ [(o, n)]) := fun x hx => by
 rcases List.mem_append.1 hx with q | q
 ·exact h x q
 ·simp at q; subst q; exact ⟨h1, h3, h4, h2⟩
theorem Mid.imm {l : List (Int × Int)} (h : Mid l) : ∀ x ∈ l, 0 ≤ x.2 ∧ x.2 < 4294967296 := fun x hx => (h x hx).2.2.2
theorem Mid.last {l : List (Int × Int)} (h : Mid l) (h2 : l.length ≤ 7) {o n : Int} (a1 : rightI o n = true) (a3 : plainB o = true) : OkIns (l ++ [(o, n)]) := ⟨by simp, by simp; omega, fun k x hx => by
 rw [List.getElem?_append] at hx;split at hx
 ·obtain ⟨a, b, c, _⟩ := h x (List.mem_of_getElem? hx);exact ⟨a, b, fun _ => c⟩
 ·have := (List.getElem?_eq_some_iff.1 hx).1;simp at this;rw [show k - l.length = 0 by omega] at hx;simp at hx; subst hx
  exact ⟨a1, a3, fun q => by simp at q; omega⟩⟩
theorem Mid.last_imm {l : List (Int × Int)} (h : Mid l) {o n : Int} (a2 : 0 ≤ n ∧ n < 4294967296) : ∀ x ∈ l ++ [(o, n)], 0 ≤ x.2 ∧ x.2 < 4294967296 := fun x hx => by
 rcases List.mem_append.1 hx with q | q
 ·exact h.imm x q
 ·simp at q; subst q; exact a2
structure LowI (m : List (Int × Int)) : Prop where
 imm : ∀ x ∈ m, 0 ≤ x.2 ∧ x.2 < 4294967296
 ok : m.length = 0 ∨ OkIns m
theorem i64_in {l : List Int} (h : ∀ x ∈ l, i64B x = true) {k : Nat} {x : Int} (hx : l[k]? = some x) : i64B x = true := h x (List.mem_of_getElem? hx)
end Ls
end Go.Proofs.Ytegjicaoemhhlaa
