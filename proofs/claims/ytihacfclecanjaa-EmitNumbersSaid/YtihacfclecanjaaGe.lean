/- Chapter 22: walks and laws. -/
import Derived.Test.YtihacfclecanjaaGd
import Derived.Test.YtihacfclecanjaaGb
import Derived.Test.YtihacfclecanjaaGc
set_option linter.unusedVariables false
set_option linter.unusedSimpArgs false
namespace Go.Proofs.Ytihacfclecanjaa
open Go Go.Ev Go.RowKit
set_option maxRecDepth 100000
namespace Ls
theorem madeB_mono {nd nr nd' nr' : Int} {x : II} {k : Int} (h : madeB nd nr x k = true) (h1 : nd ≤ nd') (h2 : nr ≤ nr') : madeB nd' nr' x k = true := by
 unfold madeB at h ⊢;simp only [ab, aq] at h ⊢;refine ⟨h.1, ?_⟩;replace h := h.2
 by_cases e0 : x.1 = 0
 ·rw [if_pos e0] at h ⊢; exact h
 rw [if_neg e0] at h ⊢
 by_cases e1 : x.1 = 1
 ·rw [if_pos e1] at h ⊢; simp only [ab, aq] at h ⊢; omega
 rw [if_neg e1] at h ⊢
 by_cases e2 : x.1 = 2
 ·rw [if_pos e2] at h ⊢; simp only [ab, aq] at h ⊢; omega
 rw [if_neg e2] at h ⊢;exact h
structure Cr (c : List II) (nd nr : Int) : Prop where
 code : ∀ (j : Nat) (x : II), c[j]? = some x → madeB nd nr x j = true
 imm : ∀ x ∈ c, 0 ≤ x.2.2.2.2 ∧ x.2.2.2.2 < 4294967296
def Vs (c : List II) (l : List Int) : Prop := ∀ x ∈ l, 0 ≤ x ∧ x < (c.length : Int)
theorem Cr.mono {c : List II} {nd nr nd' nr' : Int} (h : Cr c nd nr) (h1 : nd ≤ nd') (h2 : nr ≤ nr') : Cr c nd' nr' := ⟨fun j x hx => madeB_mono (h.code j x hx) h1 h2, h.imm⟩
theorem Cr.snoc {c : List II} {nd nr : Int} (h : Cr c nd nr) {x : II} (hx : madeB nd nr x (c.length : Nat) = true) (hi : 0 ≤ x.2.2.2.2 ∧ x.2.2.2.2 < 4294967296) : Cr (c ++ [x]) nd nr := by
 refine ⟨fun j y hy => ?_, fun y hy => ?_⟩
 ·rw [List.getElem?_append] at hy;split at hy
  ·exact h.code j y hy
  ·have : j = c.length := by
     have := (ac.1 hy).1;simp at this; omega
   subst this;simp at hy;subst hy;exact hx
 ·rcases eZ.1 hy with hy | hy
  ·exact h.imm y hy
  ·simp at hy; subst hy; exact hi
theorem Vs.app {c : List II} {l : List Int} (h : Vs c l) (m : List II) : Vs (c ++ m) l := fun x hx => by
 have := h x hx;rw [aA];omega
theorem pop_d {c c1 : List II} {d d1 : List Int} {nd nr m1 n1 : Int} (h : popC 1 c d nd = (c1, d1, m1, n1)) (hc : Cr c nd nr) (hd : Vs c d) (h0 : 0 ≤ nd) (h1 : nd < 1000000) :
    Cr c1 m1 nr ∧ Vs c1 d1 ∧ (0 ≤ n1 ∧ n1 < (c1.length : Int)) ∧ c.length ≤ c1.length ∧ c1.length ≤ c.length + 1 ∧ nd ≤ m1 ∧ m1 ≤ nd + 1 ∧ ((d1.length : Int) - m1 = (d.length : Int) - nd - 1) ∧ (∀ l, Vs c l → Vs c1 l) := by
 rcases nil_or_snoc d with rfl | ⟨l, x, rfl⟩
 ·rw [popC_nil] at h;cases h;refine ⟨(hc.mono zo (aI _)).snoc ?_ ⟨h0, by simp; omega⟩, fun x hx => (by cases hx), ⟨by omega, by simp; omega⟩, by simp, by simp, by omega, by omega, by simp; omega, fun l hl => hl.app _⟩;unfold madeB; simp; omega
 ·rw [popC_snoc] at h;cases h;have := hd n1 (by simp);exact ⟨hc, fun x hx => hd x (by simp [hx]), this, aj _, by omega, aI _, by omega, by simp; omega, fun l hl => hl⟩
theorem pop_r {c c1 : List II} {d d1 : List Int} {nd nr m1 n1 : Int} (h : popC 2 c d nr = (c1, d1, m1, n1)) (hc : Cr c nd nr) (hd : Vs c d) (h0 : 0 ≤ nr) (h1 : nr < 1000000) :
    Cr c1 nd m1 ∧ Vs c1 d1 ∧ (0 ≤ n1 ∧ n1 < (c1.length : Int)) ∧ c.length ≤ c1.length ∧ c1.length ≤ c.length + 1 ∧ nr ≤ m1 ∧ m1 ≤ nr + 1 ∧ ((d1.length : Int) - m1 = (d.length : Int) - nr - 1) ∧ (∀ l, Vs c l → Vs c1 l) := by
 rcases nil_or_snoc d with rfl | ⟨l, x, rfl⟩
 ·rw [popC_nil] at h;cases h;refine ⟨(hc.mono (aI _) zo).snoc ?_ ⟨h0, by simp; omega⟩, fun x hx => (by cases hx), ⟨by omega, by simp; omega⟩, by simp, by simp, by omega, by omega, by simp; omega, fun l hl => hl.app _⟩;unfold madeB; simp; omega
 ·rw [popC_snoc] at h;cases h;have := hd n1 (by simp);exact ⟨hc, fun x hx => hd x (by simp [hx]), this, aj _, by omega, aI _, by omega, by simp; omega, fun l hl => hl⟩
theorem Vs.add {c : List II} {l m : List Int} (h : Vs c l) (h2 : Vs c m) : Vs c (l ++ m) := fun x hx => (eZ.1 hx).elim (h x) (h2 x)
theorem vs1 {c : List II} {a : Int} (h : 0 ≤ a ∧ a < (c.length : Int)) : Vs c [a] := fun x hx => by simp at hx; subst hx; exact h
theorem vs2 {c : List II} {a b : Int} (h : 0 ≤ a ∧ a < (c.length : Int)) (h2 : 0 ≤ b ∧ b < (c.length : Int)) : Vs c [a, b] := fun x hx => by simp at hx; rcases hx with rfl | rfl <;> assumption
theorem vs3 {c : List II} {a b d : Int} (h : 0 ≤ a ∧ a < (c.length : Int)) (h2 : 0 ≤ b ∧ b < (c.length : Int)) (h3 : 0 ≤ d ∧ d < (c.length : Int)) : Vs c [a, b, d] := fun x hx => by simp at hx; rcases hx with rfl | rfl | rfl <;> assumption
structure LwI (k j : Nat) (w : LW) : Prop where
 cr : Cr w.c w.nd w.nr
 d : Vs w.c w.d
 r : Vs w.c w.r
 cl : w.c.length ≤ 4 * k
 nd : 0 ≤ w.nd ∧ w.nd ≤ 2 * (k : Int)
 nr : 0 ≤ w.nr ∧ w.nr ≤ (k : Int)
 dl : (w.d.length : Int) - w.nd ≤ k
 rl : (w.r.length : Int) - w.nr ≤ k
 dle : w.d.length ≤ 3 * k
 rle : w.r.length ≤ k
 hd : 0 ≤ w.hd ∧ w.hd ≤ (j : Int)
 hr : 0 ≤ w.hr ∧ w.hr ≤ (j : Int)
 fl : w.fl = -1 ∨ (0 ≤ w.fl ∧ w.fl < (w.c.length : Int))
 tg : w.tg = -1 ∨ (0 ≤ w.tg ∧ w.tg < (w.c.length : Int))
 bt : w.br = 0 ∨ (33 ≤ w.br ∧ w.br ≤ 37 ∧ w.tg = -1)
theorem popE (op : Int) (c : List II) (d : List Int) (nd : Int) : ∃ c1 d1 m1 n1, popC op c d nd = (c1, d1, m1, n1) := ⟨_, _, _, _, rfl⟩
theorem mkd_const {c : List II} {nd nr n : Int} (h : Cr c nd nr) (hn : 0 ≤ n ∧ n < 4294967296) : Cr (c ++ [(0, (c.length : Int), 0, 0, n)]) nd nr := h.snoc (by unfold madeB; simp) hn
theorem mkd_alu {c : List II} {nd nr a b op t : Int} (h : Cr c nd nr) (ht : (t = 3 ∧ 16 ≤ op ∧ op ≤ 23) ∨ (t = 4 ∧ ((16 ≤ op ∧ op ≤ 23) ∨ op = 25))) (ha : 0 ≤ a ∧ a < (c.length : Int)) (hb : 0 ≤ b ∧ b < (c.length : Int)) : Cr (c ++ [(t, (c.length : Int), a, b, op)]) nd nr := h.snoc (by unfold madeB valB; rcases ht with ⟨rfl, _⟩ | ⟨rfl, _⟩ <;> simp <;> omega) (by simp; omega)
theorem oneB_inv {k : Nat} {op n nx : Int} {w : LW} (h : LwI k k w) (hk : k ≤ 100) (hp : plainB op = true) (hn : 0 ≤ n ∧ n < 4294967296) (hx : 0 ≤ nx ∧ nx < 4294967296) (hb : w.br = 0 ∧ w.tg = -1) : LwI (k + 1) k (oneB op n nx w) := by
 obtain ⟨c, d, r, nd, hd, nr, hr, fl, tg, br⟩ := w;obtain ⟨a1, a2, a3, a4, a5, a6, a7, a8, a9, a10, a11, a12, a13, a14, a15⟩ := h;simp only at a1 a2 a3 a4 a5 a6 a7 a8 a9 a10 a11 a12 a13 a14 a15 hb;obtain ⟨rfl, rfl⟩ := hb;obtain ⟨c1, d1, m1, n1, hq⟩ := popE 1 c d nd;obtain ⟨b1, b2, b3, b4, b5, b6, b7, b8, b9⟩ := pop_d hq a1 a2 a5.1 zo;have bl := popC_len hq;obtain ⟨c2, d2, m2, n2, hq2⟩ := popE 1 c1 d1 m1;obtain ⟨e1, e2, e3, e4, e5, e6, e7, e8, e9⟩ := pop_d hq2 b1 b2 zo zo;have bl2 := popC_len hq2;obtain ⟨cr, r1, mr, nr1, hqr⟩ := popE 2 c r nr;obtain ⟨g1, g2, g3, g4, g5, g6, g7, g8, g9⟩ := pop_r hqr a1 a3 a6.1 zo;have gl := popC_len hqr;have fw : ∀ {c' : List II}, c.length ≤ c'.length → fl = -1 ∨ (0 ≤ fl ∧ fl < (c'.length : Int)) := fun q => by omega
 have lit : ∀ v : Int, (0 ≤ v ∧ v < 4294967296) → Cr (c ++ [(0, (c.length : Int), 0, 0, v)]) nd nr := fun v hv => mkd_const a1 hv
 rcases op_cases hp with ho | ho | ho | ho | ho | ho | ho | ho | ho | ho | ho | ho | ho | ho | ho | ho
 ·rw [one_nop (.inl ho)];exact ⟨a1, a2, a3, by simp only; omega, by simp only; omega, by simp only; omega, by simp only; omega, by simp only; omega, by simp only; omega, by simp only; omega, a11, a12, a13, a14, .inl rfl⟩
 ·rw [one_lit (.inl ho)];exact ⟨lit n hn, (a2.app _).add (vs1 (by simp; omega)), a3.app _, by simp; omega, by simp only; omega, by simp only; omega, by simp; omega, by simp only; omega, by simp; omega, by simp only; omega, a11, a12, fw (by simp), .inl rfl, .inl rfl⟩
 ·rw [one_lit (.inr ho)];exact ⟨lit n hn, (a2.app _).add (vs1 (by simp; omega)), a3.app _, by simp; omega, by simp only; omega, by simp only; omega, by simp; omega, by simp only; omega, by simp; omega, by simp only; omega, a11, a12, fw (by simp), .inl rfl, .inl rfl⟩
 ·rw [one_dup ho hq];exact ⟨b1, b2.add (vs2 b3 b3), b9 _ a3, by simp only; omega, by simp only; omega, by simp only; omega, by simp; omega, by simp only; omega, by simp; omega, by simp only; omega, a11, a12, fw b4, .inl rfl, .inl rfl⟩
 ·rw [one_drop ho hq];exact ⟨b1, b2, b9 _ a3, by simp only; omega, by simp only; omega, by simp only; omega, by simp only; omega, by simp only; omega, by simp only; omega, by simp only; omega, a11, a12, fw b4, .inl rfl, .inl rfl⟩
 ·rw [one_swap ho hq hq2];exact ⟨e1, e2.add (vs2 zo e3), e9 _ (b9 _ a3), by simp only; omega, by simp only; omega, by simp only; omega, by simp; omega, by simp only; omega, by simp; omega, by simp only; omega, a11, a12, fw (ay b4 e4), .inl rfl, .inl rfl⟩
 ·rw [one_over ho hq hq2];exact ⟨e1, e2.add (vs3 e3 zo e3), e9 _ (b9 _ a3), by simp only; omega, by simp only; omega, by simp only; omega, by simp; omega, by simp only; omega, by simp; omega, by simp only; omega, a11, a12, fw (ay b4 e4), .inl rfl, .inl rfl⟩
 ·rw [one_tor ho hq];exact ⟨b1, b2, (b9 _ a3).add (vs1 b3), by simp only; omega, by simp only; omega, by simp only; omega, by simp only; omega, by simp; omega, by simp only; omega, by simp; omega, a11, a12, fw b4, .inl rfl, .inl rfl⟩
 ·rw [one_fromr ho hqr];exact ⟨g1, (g9 _ a2).add (vs1 g3), g2, by simp only; omega, by simp only; omega, by simp only; omega, by simp; omega, by simp only; omega, by simp; omega, by simp only; omega, a11, a12, fw g4, .inl rfl, .inl rfl⟩
 ·rw [one_alu ho hq hq2];have f1 := mkd_alu (t := 4) (a := n2) (b := n1) (op := op) e1 (.inr ⟨rfl, .inl ho⟩) e3 zo;have f2 := mkd_alu (t := 3) (a := n2) (b := n1) (op := op) f1 (.inl ⟨rfl, ho⟩) (by simp; omega) (by simp; omega);exact ⟨f2, ((e2.app _).app _).add (vs1 (by simp; omega)), ((e9 _ (b9 _ a3)).app _).app _, by simp; omega, by simp only; omega, by simp only; omega, by simp; omega, by simp only; omega, by simp; omega, by simp only; omega, a11, a12, .inr (by simp; omega), .inl rfl, .inl rfl⟩
 ·rw [one_cmp ho hq hq2];have f1 := mkd_alu (t := 4) (a := n2) (b := n1) (op := op) e1 (.inr ⟨rfl, .inr ho⟩) e3 zo;exact ⟨f1, e2.app _, (e9 _ (b9 _ a3)).app _, by simp; omega, by simp only; omega, by simp only; omega, by simp only; omega, by simp only; omega, by simp only; omega, by simp only; omega, a11, a12, .inr (by simp; omega), .inl rfl, .inl rfl⟩
 ·rw [one_nop (.inr ho)];exact ⟨a1, a2, a3, by simp only; omega, by simp only; omega, by simp only; omega, by simp only; omega, by simp only; omega, by simp only; omega, by simp only; omega, a11, a12, a13, a14, .inl rfl⟩
 ·rw [one_jcc ho];exact ⟨a1, a2, a3, by simp only; omega, by simp only; omega, by simp only; omega, by simp only; omega, by simp only; omega, by simp only; omega, by simp only; omega, a11, a12, a13, .inl rfl, .inr ⟨ho.1, ho.2, rfl⟩⟩
 ·rw [one_call ho];exact ⟨lit nx hx, a2.app _, (a3.app _).add (vs1 (by simp; omega)), by simp; omega, by simp only; omega, by simp only; omega, by simp only; omega, by simp; omega, by simp only; omega, by simp; omega, a11, a12, fw (by simp), .inl rfl, .inl rfl⟩
 ·rw [one_ret ho hqr];exact ⟨g1, g9 _ a2, g2, by simp only; omega, by simp only; omega, by simp only; omega, by simp only; omega, by simp only; omega, by simp only; omega, by simp only; omega, a11, a12, fw g4, .inr g3, .inl rfl⟩
 ·rw [one_jmpi ho hq];exact ⟨b1, b2, b9 _ a3, by simp only; omega, by simp only; omega, by simp only; omega, by simp only; omega, by simp only; omega, by simp only; omega, by simp only; omega, a11, a12, fw b4, .inr b3, .inl rfl⟩
theorem topW_inv {k j : Nat} {w : LW} (h : LwI k j w) (hj : j ≤ k) : LwI k k (topW w) := by
 obtain ⟨a1, a2, a3, a4, a5, a6, a7, a8, a9, a10, a11, a12, a13, a14, a15⟩ := h;exact ⟨a1, a2, a3, a4, a5, a6, a7, a8, a9, a10, by simp only [topW]; omega, by simp only [topW]; omega, a13, a14, a15⟩
theorem oneP_z {op n nx : Int} {w : LW} (hp : plainB op = true) (he : endsB op = false) (hb : w.br = 0 ∧ w.tg = -1) : (oneP op n nx w).br = 0 ∧ (oneP op n nx w).tg = -1 := by
 obtain ⟨c, d, r, nd, hd, nr, hr, fl, tg, br⟩ := w;simp only at hb;obtain ⟨rfl, rfl⟩ := hb
 have h2 : ¬ (32 ≤ op ∧ op ≤ 40) := fun q => by
  unfold endsB at he;simp at he;omega
 obtain ⟨c1, d1, m1, n1, hq⟩ := popE 1 c d nd;obtain ⟨c2, d2, m2, n2, hq2⟩ := popE 1 c1 d1 m1;obtain ⟨cr, r1, mr, nr1, hqr⟩ := popE 2 c r nr;unfold oneP;rcases op_cases hp with ho | ho | ho | ho | ho | ho | ho | ho | ho | ho | ho | ho | ho | ho | ho | ho
 ·rw [one_nop (.inl ho)]; exact ⟨rfl, rfl⟩
 ·rw [one_lit (.inl ho)]; exact ⟨rfl, rfl⟩
 ·rw [one_lit (.inr ho)]; exact ⟨rfl, rfl⟩
 ·rw [one_dup ho hq]; exact ⟨rfl, rfl⟩
 ·rw [one_drop ho hq]; exact ⟨rfl, rfl⟩
 ·rw [one_swap ho hq hq2]; exact ⟨rfl, rfl⟩
 ·rw [one_over ho hq hq2]; exact ⟨rfl, rfl⟩
 ·rw [one_tor ho hq]; exact ⟨rfl, rfl⟩
 ·rw [one_fromr ho hqr]; exact ⟨rfl, rfl⟩
 ·rw [one_alu ho hq hq2]; exact ⟨rfl, rfl⟩
 ·rw [one_cmp ho hq hq2]; exact ⟨rfl, rfl⟩
 all_goals omega
theorem low_inv {l : List (Int × Int)} {pc : Int} (hok : OkIns l) (hn : ∀ x ∈ l, 0 ≤ x.2 ∧ x.2 < 4294967296) : ∀ k, k ≤ l.length → LwI k k (lowW l pc k) ∧ (k < l.length → (lowW l pc k).br = 0 ∧ (lowW l pc k).tg = -1) := by
 intro k
 induction k with
 | zero => exact fun _ => ⟨⟨⟨fun j x hx => (by simp [lowW, low0] at hx), fun x hx => (by simp [lowW, low0] at hx)⟩, fun x hx => (by simp [lowW, low0] at hx), fun x hx => (by simp [lowW, low0] at hx), by simp [lowW, low0], by simp [lowW, low0], by simp [lowW, low0], by simp [lowW, low0], by simp [lowW, low0], by simp [lowW, low0], by simp [lowW, low0], by simp [lowW, low0], by simp [lowW, low0], .inl rfl, .inl rfl, .inl rfl⟩, fun _ => ⟨rfl, rfl⟩⟩
 | succ k ih =>
  intro hk;obtain ⟨h1, h2⟩ := ih zo;have h2 := h2 zo;have hx : l[k]? = some (l[k]'zo) := af _;generalize l[k]'zo = x at hx;obtain ⟨q1, q2, q3⟩ := hok.ok k x hx;have hm := hok.most;rw [lowW_succ hx];refine ⟨topW_inv (oneB_inv h1 zo q2 (hn x (ag hx)) (u32_wrap_in _) h2) zo, fun hlt => oneP_z q2 (q3 hlt) h2⟩
theorem low_b {l : List (Int × Int)} {pc : Int} (hok : OkIns l) (hn : ∀ x ∈ l, 0 ≤ x.2 ∧ x.2 < 4294967296) : ∀ k, k ≤ l.length → LwB (lowW l pc k) := fun k hk => by
 obtain ⟨h, _⟩ := low_inv (pc := pc) hok hn k hk;have hm := hok.most;have := h.cl; have := h.dle; have := h.rle; have := h.nd; have := h.nr;exact ⟨by omega, by omega, by omega, by omega, by omega⟩
theorem low_right {l : List (Int × Int)} {pc : Int} (hok : OkIns l) (hn : ∀ x ∈ l, 0 ≤ x.2 ∧ x.2 < 4294967296) : RightP (lowW l pc l.length).c (lowW l pc l.length).d (lowW l pc l.length).r (lowW l pc l.length).nd (lowW l pc l.length).nr (lowW l pc l.length).hd (lowW l pc l.length).hr (lowW l pc l.length).fl (lowW l pc l.length).tg (lowW l pc l.length).br (l.length : Int) ((lowW l pc l.length).c.length : Int) := by
 obtain ⟨h, _⟩ := low_inv (pc := pc) hok hn l.length (aj _);have hm := hok.most; have h1 := hok.one;have a1 := h.cl; have a2 := h.nd; have a3 := h.nr; have a4 := h.hd; have a5 := h.hr;exact ⟨rfl, by omega, by omega, by omega, by omega, by omega, by omega, h.cr.code, fun k x hx => valB_iff.2 (h.d x (ag hx)), fun k x hx => valB_iff.2 (h.r x (ag hx)), h.fl.imp id valB_iff.2, h.tg.imp id valB_iff.2, h.bt⟩
def Le (u v : List Bool) : Prop := ∀ i : Nat, u[i]? = some true → v[i]? = some true
theorem Le.trans {u v w : List Bool} (h : Le u v) (k : Le v w) : Le u w := fun i q => k i (h i q)
theorem mark_le (u : List Bool) (x : Int) : Le u (mark u x) := fun i q => by
 unfold mark;split
 ·exact q
 ·rw [ep];split
  ·rename_i e; subst e; rw [if_pos (ac.1 q).1]
  ·exact q
theorem outS_le : ∀ (xs : List Int) (u : List Bool), Le u (outS u xs)
 | [], u => fun i q => q
 | x :: xs, u => (mark_le u x).trans (outS_le xs (mark u x))
theorem mark_in {u : List Bool} {x : Int} (h0 : 0 ≤ x) (h : x < (u.length : Int)) : (mark u x)[x.toNat]? = some true := by
 unfold mark;rw [if_neg zo, ep, if_pos rfl, if_pos zo]
theorem outS_in : ∀ (xs : List Int) (u : List Bool) (x : Int), x ∈ xs → 0 ≤ x → x < (u.length : Int) → (outS u xs)[x.toNat]? = some true
 | y :: xs, u, x, hm, h0, h => by
  rcases eC.1 hm with rfl | hm
  ·exact outS_le xs (mark u x) _ (mark_in h0 h)
  ·exact outS_in xs (mark u y) x hm h0 (by simpa using h)
theorem mark_ne {u : List Bool} {x : Int} {i : Nat} (h : x.toNat ≠ i) : (mark u x)[i]? = u[i]? := by
 unfold mark;split
 ·rfl
 ·rw [ep, if_neg h]
theorem outS_ne : ∀ (xs : List Int) (u : List Bool) (i : Nat), (∀ x ∈ xs, x.toNat ≠ i) → (outS u xs)[i]? = u[i]?
 | [], u, i, h => rfl
 | x :: xs, u, i, h => (outS_ne xs (mark u x) i fun y hy => h y (eg _ hy)).trans (mark_ne (h x (eB ..)))
theorem bkStep_le (v : List Bool) (i : Nat) (x : II) : Le v (bkStep v i x) := by
 unfold bkStep;split
 ·exact outS_le _ _
 ·exact fun i q => q
theorem bkU_le (c : List II) (u : List Bool) : ∀ j, Le u (bkU c u j)
 | 0 => fun i q => q
 | j + 1 => by
  unfold bkU;split
  ·exact (bkU_le c u j).trans (bkStep_le _ _ _)
  ·exact bkU_le c u j
theorem bkU_closed {c : List II} {u : List Bool} {nd nr : Int} (hu : u.length = c.length) (hc : ∀ (j : Nat) (x : II), c[j]? = some x → madeB nd nr x j = true) : ∀ j, j ≤ c.length → ∀ (i : Nat) (x : II), c.length - j ≤ i → c[i]? = some x → (x.1 = 3 ∨ x.1 = 4) → (bkU c u j)[i]? = some true → (bkU c u j)[x.2.2.1.toNat]? = some true ∧ (bkU c u j)[x.2.2.2.1.toNat]? = some true := by
 intro j
 induction j with
 | zero => intro _ i x hi hx; have := (ac.1 hx).1; omega
 | succ j ih =>
  intro hj i x hi hx hop hb;have hm : c[c.length - (j + 1)]? = some (c[c.length - (j + 1)]'zo) := af _;generalize c[c.length - (j + 1)]'zo = y at hm
  have e : bkU c u (j + 1) = bkStep (bkU c u j) (c.length - (j + 1)) y := by
   show (match c[c.length - (j + 1)]? with | some x => _ | none => _) = _;rw [hm]
  rw [e] at hb ⊢;have hlen : (bkU c u j).length = c.length := by rw [bkU_len, hu]
  have same : ∀ q, c.length - (j + 1) ≤ q → (bkStep (bkU c u j) (c.length - (j + 1)) y)[q]? = (bkU c u j)[q]? := fun q hq => by
   unfold bkStep;split
   ·rename_i hs;obtain ⟨⟨y1, y2⟩, y3, y4⟩ := made_ab (hc _ y hm) hs.2;exact outS_ne _ _ _ fun z hz => by simp at hz; rcases hz with rfl | rfl <;> omega
   ·rfl
  rw [same i hi] at hb
  by_cases hq : c.length - j ≤ i
  ·obtain ⟨g1, g2⟩ := ih zo i x hq hx hop hb;exact ⟨bkStep_le _ _ _ _ g1, bkStep_le _ _ _ _ g2⟩
  ·have hie : i = c.length - (j + 1) := by omega
   subst hie;rw [hm] at hx; cases hx;obtain ⟨⟨y1, y2⟩, y3, y4⟩ := made_ab (hc _ _ hm) hop;rw [bkStep_yes hb hop];exact ⟨outS_in _ _ _ (by simp) y1 zo, outS_in _ _ _ (by simp) y3 zo⟩
structure PI (nd nr : Int) (u : List Bool) (k : Nat) (q : List Int × List II) : Prop where
 code : ∀ (j : Nat) (y : II), q.2[j]? = some y → madeB nd nr y j = true
 imm : ∀ y ∈ q.2, 0 ≤ y.2.2.2.2 ∧ y.2.2.2.2 < 4294967296
 pl : ∀ i : Nat, i < k → u[i]? = some true → ∃ p, q.1[i]? = some p ∧ 0 ≤ p ∧ p < (q.2.length : Int)
theorem plS_inv {c : List II} {u : List Bool} {nd nr : Int} (hu : u.length = c.length) (hc : ∀ (j : Nat) (x : II), c[j]? = some x → madeB nd nr x j = true) (hi : ∀ x ∈ c, 0 ≤ x.2.2.2.2 ∧ x.2.2.2.2 < 4294967296)
    (hcl : ∀ (i : Nat) (x : II), c[i]? = some x → (x.1 = 3 ∨ x.1 = 4) → u[i]? = some true → u[x.2.2.1.toNat]? = some true ∧ u[x.2.2.2.1.toNat]? = some true) : ∀ k, k ≤ c.length → PI nd nr u k (plS c u k) := by
 intro k
 induction k with
 | zero => exact fun _ => ⟨fun j y h => (by simp [plS] at h), fun y h => (by simp [plS] at h), fun i h => by omega⟩
 | succ k ih =>
  intro hk;have h := ih zo;have hx : c[k]? = some (c[k]'zo) := af _;generalize c[k]'zo = x at hx;have hb : u[k]? = some (u[k]'zo) := af _;generalize u[k]'zo = b at hb;cases b with
  | false =>
   rw [plS_no hx hb];refine ⟨h.code, h.imm, fun i hik hu' => ?_⟩;rcases (by omega : i < k ∨ i = k) with q | rfl
   ·exact h.pl i q hu'
   ·rw [hb] at hu'; cases hu'
  | true =>
   rw [plS_yes hx hb];have hpl := plS_len c u k;generalize hP : (plS c u k).1 = P at *;generalize hC : (plS c u k).2 = C at *;have hh := h;have hm := hc k x hx
   have hplX : madeB nd nr (plX (P.set k (C.length : Int)) (C.length : Int) x) (C.length : Nat) = true ∧ (plX (P.set k (C.length : Int)) (C.length : Int) x).2.2.2.2 = x.2.2.2.2 := by
    by_cases hop : x.1 = 3 ∨ x.1 = 4
    ·obtain ⟨⟨y1, y2⟩, y3, y4⟩ := made_ab hm hop;obtain ⟨g1, g2⟩ := hcl k x hx hop hb;obtain ⟨p1, r1, r2, r3⟩ := h.pl _ zo g1;obtain ⟨p2, r4, r5, r6⟩ := h.pl _ zo g2;rw [hP] at r1 r4; rw [hC] at r3 r6;rw [plX_yes (A := x.2.2.1.toNat) (B := x.2.2.2.1.toNat) (b1 := p1) (b2 := p2) hop zo zo (by rw [ep, if_neg zo]; exact r1) (by rw [ep, if_neg zo]; exact r4)];refine ⟨?_, rfl⟩;obtain ⟨o, dd, a, b', im⟩ := x;have := (made_cases hm).2;unfold madeB valB;simp only at hop this ⊢;rcases hop with rfl | rfl <;> simp <;> omega
    ·rw [plX_no hop];refine ⟨?_, rfl⟩;obtain ⟨o, dd, a, b', im⟩ := x;have := (made_cases hm).2;unfold madeB;simp only at hop this ⊢;rcases (by omega : o = 0 ∨ o = 1 ∨ o = 2) with rfl | rfl | rfl <;> simp <;> omega
   refine ⟨fun j y hy => ?_, fun y hy => ?_, fun i hik hu' => ?_⟩
   ·simp only at hy;rw [List.getElem?_append] at hy;split at hy
    ·exact h.code j y (by rw [hC]; exact hy)
    ·have : j = C.length := by
       have := (ac.1 hy).1;simp at this; omega
     subst this;simp at hy;subst hy;exact hplX.1
   ·simp only at hy;rcases eZ.1 hy with hy | hy
    ·exact h.imm y (by rw [hC]; exact hy)
    ·simp at hy; subst hy; rw [hplX.2]; exact hi x (ag hx)
   ·simp only;rcases (by omega : i < k ∨ i = k) with q | rfl
    ·obtain ⟨p, r1, r2, r3⟩ := h.pl i q hu';rw [hP] at r1; rw [hC] at r3;exact ⟨p, by rw [ep, if_neg zo]; exact r1, r2, by simp; omega⟩
    ·exact ⟨(C.length : Int), by rw [ep, if_pos rfl, if_pos zo], by omega, by simp; omega⟩
theorem sweep_right {c : List II} {od rd : List Int} {nd nr hd hr fl tg br ct : Int} (hR : RightP c od rd nd nr hd hr fl tg br ct (c.length : Int)) (hi : ∀ x ∈ c, 0 ≤ x.2.2.2.2 ∧ x.2.2.2.2 < 4294967296) :
    RightP (swC c od rd fl tg) (movL (swP c od rd fl tg) od) (movL (swP c od rd fl tg) rd) nd nr hd hr (movO (swP c od rd fl tg) fl) (movO (swP c od rd fl tg) tg) br ct ((swC c od rd fl tg).length : Int) ∧ (∀ x ∈ swC c od rd fl tg, 0 ≤ x.2.2.2.2 ∧ x.2.2.2.2 < 4294967296) := by
 have hu0 : (outS (outS (outS (List.replicate c.length false) od) rd) [fl, tg]).length = c.length := by simp
 have hul : (swU c od rd fl tg).length = c.length := by unfold swU; rw [bkU_len, hu0]
 have hI := plS_inv (u := swU c od rd fl tg) hul hR.code hi (fun i x hx hop hb => bkU_closed hu0 hR.code c.length (aj _) i x zo hx hop hb) c.length (aj _);have base : Le (outS (outS (outS (List.replicate c.length false) od) rd) [fl, tg]) (swU c od rd fl tg) := bkU_le _ _ _
 have at_ : ∀ x : Int, (0 ≤ x ∧ x < (c.length : Int)) → (swU c od rd fl tg)[x.toNat]? = some true → valB (movI (swP c od rd fl tg) x) ((swC c od rd fl tg).length : Int) = true := fun x hx hm => by
  obtain ⟨p, r1, r2, r3⟩ := hI.pl x.toNat zo hm;refine valB_iff.2 ?_;unfold movI;rw [show (swP c od rd fl tg).getD x.toNat 0 = p by rw [ak]; unfold swP; rw [r1]; rfl];exact ⟨r2, r3⟩
 have hod : ∀ x ∈ od, valB (movI (swP c od rd fl tg) x) ((swC c od rd fl tg).length : Int) = true := fun x hx => by
  obtain ⟨k, hk⟩ := aH.1 hx;have hv := valB_iff.1 (hR.od_ k x hk);exact at_ x hv (base _ (outS_le _ _ _ (outS_le _ _ _ (outS_in _ _ _ hx hv.1 (by simpa using hv.2)))))
 have hrd : ∀ x ∈ rd, valB (movI (swP c od rd fl tg) x) ((swC c od rd fl tg).length : Int) = true := fun x hx => by
  obtain ⟨k, hk⟩ := aH.1 hx;have hv := valB_iff.1 (hR.rd_ k x hk);exact at_ x hv (base _ (outS_le _ _ _ (outS_in _ _ _ hx hv.1 (by simpa using hv.2))))
 have ho : ∀ x ∈ [fl, tg], (x = -1 ∨ valB x (c.length : Int) = true) → movO (swP c od rd fl tg) x = -1 ∨ valB (movO (swP c od rd fl tg) x) ((swC c od rd fl tg).length : Int) = true := fun x hx hv => by
  unfold movO
  by_cases hx1 : x = -1
  ·rw [if_pos hx1]; exact .inl rfl
  ·rw [if_neg hx1];have hv := valB_iff.1 (hv.resolve_left hx1);exact .inr (at_ x hv (base _ (outS_in _ _ _ hx hv.1 (by simpa using hv.2))))
 refine ⟨⟨rfl, ay (plS_le c _ _) hR.len, hR.nd_, hR.nr_, hR.hd_, hR.hr_, hR.ct_, hI.code, fun k x hx => ?_, fun k x hx => ?_, ho fl (by simp) hR.fl_, ho tg (by simp) hR.tg_, hR.br_.imp id fun ⟨h1, h2, h3⟩ => ⟨h1, h2, by unfold movO; rw [if_pos h3]⟩⟩, hI.imm⟩
 ·obtain ⟨y, hy, rfl⟩ := iz.1 (ag hx);exact hod y hy
 ·obtain ⟨y, hy, rfl⟩ := iz.1 (ag hx);exact hrd y hy
def Mid (l : List (Int × Int)) : Prop := ∀ x ∈ l, rightI x.1 x.2 = true ∧ plainB x.1 = true ∧ endsB x.1 = false ∧ 0 ≤ x.2 ∧ x.2 < 4294967296
theorem Mid.ok {l : List (Int × Int)} (h : Mid l) (h1 : 1 ≤ l.length) (h2 : l.length ≤ 8) : OkIns l := ⟨h1, h2, fun k x hx => by
 obtain ⟨a, b, c, _⟩ := h x (ag hx)
 exact ⟨a, b, fun _ => c⟩⟩
theorem Mid.imm {l : List (Int × Int)} (h : Mid l) : ∀ x ∈ l, 0 ≤ x.2 ∧ x.2 < 4294967296 := fun x hx => (h x hx).2.2.2
theorem Mid.last {l : List (Int × Int)} (h : Mid l) (h2 : l.length ≤ 7) {o n : Int} (a1 : rightI o n = true) (a3 : plainB o = true) : OkIns (l ++ [(o, n)]) := ⟨by simp, by simp; omega, fun k x hx => by
 rw [List.getElem?_append] at hx;split at hx
 ·obtain ⟨a, b, c, _⟩ := h x (ag hx);exact ⟨a, b, fun _ => c⟩
 ·have := (ac.1 hx).1;simp at this;rw [show k - l.length = 0 by omega] at hx;simp at hx; subst hx
  exact ⟨a1, a3, fun q => by simp at q; omega⟩⟩
structure LowI (m : List (Int × Int)) : Prop where
 imm : ∀ x ∈ m, 0 ≤ x.2 ∧ x.2 < 4294967296
 ok : m.length = 0 ∨ OkIns m
theorem Mid.low {l : List (Int × Int)} (h : Mid l) (h2 : l.length ≤ 8) : LowI l := ⟨h.imm, by
 rcases Nat.eq_zero_or_pos l.length with q | q
 ·exact .inl q
 ·exact .inr (h.ok q h2)⟩
theorem movL_len2 (P : List Int) : ∀ l : List Int, (movL P l).length = l.length
 | [] => rfl
 | x :: t => by simp [movL]
theorem low_block {l : List (Int × Int)} {pc : Int} (hok : OkIns l) (hn : ∀ x ∈ l, 0 ≤ x.2 ∧ x.2 < 4294967296) {c : List II} {d r : List Int} {nd h1 nr h2 fl tg br f1 t1 : Int} {C : List II} {OD RD : List Int} (hw : lowW l pc l.length = ⟨c, d, r, nd, h1, nr, h2, fl, tg, br⟩)
    (e1 : f1 = movO (swP c d r fl tg) fl) (e2 : t1 = movO (swP c d r fl tg) tg) (e5 : C = swC c d r fl tg) (e6 : OD = movL (swP c d r fl tg) d) (e7 : RD = movL (swP c d r fl tg) r) :
    RightP C OD RD nd nr h1 h2 f1 t1 br (l.length : Int) (C.length : Int) ∧ (∀ x ∈ C, 0 ≤ x.2.2.2.2 ∧ x.2.2.2.2 < 4294967296) ∧ OD.length < 100 ∧ RD.length < 100 := by
 have hlr := low_right (pc := pc) hok hn;have hli := (low_inv (pc := pc) hok hn _ (aj _)).1;rw [hw] at hlr hli;have him := hli.cr.imm;have hm := hok.most;have hdl := hli.dle; have hrl := hli.rle;simp only at hlr him hdl hrl;obtain ⟨hR, hi⟩ := sweep_right hlr him;subst e1 e2 e5 e6 e7;have l1 := movL_len2 (swP c d r fl tg) d;have l2 := movL_len2 (swP c d r fl tg) r;exact ⟨hR, hi, by omega, by omega⟩
theorem lowPc_in {l : List (Int × Int)} {pc : Int} (h : 0 ≤ pc ∧ pc < 4294967296) : ∀ k, 0 ≤ lowPc l pc k ∧ lowPc l pc k < 4294967296
 | 0 => h
 | k + 1 => by
  show 0 ≤ (match l[k]? with | some x => _ | none => _ : Int) ∧ (match l[k]? with | some x => _ | none => _ : Int) < _;split
  ·exact u32_wrap_in _
  ·exact lowPc_in h k
theorem low_nx {l : List (Int × Int)} {pc : Int} (h : 0 ≤ pc ∧ pc < 4294967296) : u32P (lowNext l (lowPc l pc l.length)) := by
 have q := lowPc_in (l := l) h l.length;unfold lowNext;split
 ·split
  ·exact u32_wrap_in _
  ·exact q
 ·exact q
theorem low_tk (l : List (Int × Int)) (e br : Int) : u32P (lowTaken l e br) := by
 unfold lowTaken;split
 ·split
  ·exact ⟨aI _, by decide⟩
  ·split
   ·exact ⟨aI _, by decide⟩
   ·exact u32_wrap_in _
 ·exact ⟨aI _, by decide⟩
theorem stOk_of {d r : List Int} {fl : Int} (h1 : d.length ≤ 16) (h2 : r.length ≤ 16) (h3 : fl ≤ 15) : stOk d r fl = true := by simp [stOk, h1, h2, h3]
theorem okI_one {op n : Int} (h : rightI op n = true ∧ plainB op = true) : OkIns [(op, n)] := ⟨by simp, by simp, fun k x hx => by
 rcases k with _ | k
 ·cases hx; exact ⟨h.1, h.2, fun q => by simp at q⟩
 ·cases hx⟩
theorem imm_one {op n : Int} (h : 0 ≤ n ∧ n < 4294967296) : ∀ x ∈ [(op, n)], 0 ≤ x.2 ∧ x.2 < 4294967296 := fun x hx => by simp at hx; subst hx; exact h
theorem V32.rep (n : Nat) : V32 (List.replicate n 0) := fun x hx => by rw [List.eq_of_mem_replicate hx]; exact ⟨aI _, by decide⟩
theorem V32.set {l : List Int} (h : V32 l) (k : Nat) {v : Int} (hv : 0 ≤ v ∧ v < 4294967296) : V32 (l.set k v) := fun x hx => by
 rcases List.mem_or_eq_of_mem_set hx with q | q
 ·exact h x q
 ·rw [q]; exact hv
theorem codes_any {c : List II} {od rd : List Int} {nd nr hd hr fl nx tg br tk ct : Int} {q : Sx} {d dj r rj : List Int} {ro : Bool} {ka kb : Nat} (hR : RightP c od rd nd nr hd hr fl tg br ct (c.length : Int)) (hol : od.length < 1000) (hrl : rd.length < 1000) (hi : ∀ x ∈ c, 0 ≤ x.2.2.2.2 ∧ x.2.2.2.2 < 4294967296) (hnx : u32P nx) (htk : u32P tk) (hd32 : V32 d) (hr32 : V32 r) (hpc9 : 0 ≤ q.pc ∧ q.pc < 4294967296) (hfl : 0 ≤ q.fl) (hok : stOk d r q.fl = true) (hcn : 0 ≤ q.cnt ∧ q.cnt < 18446744073709551616) : SCall Try.prog T15 8 #[(pgV (s5 0 c.length) nd nr hd hr (s1 1 od.length) (s1 2 rd.length) fl nx tg br tk ct (c.length : Int)), (stq q q.pc (sK 3 d.length ka) (sK 4 r.length kb) q.fl q.cnt)] (hq [(iiF c), (inF od), (inF rd), (uCo (d ++ dj) ro), (uCo (r ++ rj) ro)]) fun v h => v = .bool true ∧ h = hq [(iiF c), (inF od), (inF rd), (uCo (d ++ dj) ro), (uCo (r ++ rj) ro)] := by
 by_cases h : ((nd ≤ (d.length : Int) ∧ (d.length : Int) + hd ≤ 16) ∧ (nr ≤ (r.length : Int) ∧ (r.length : Int) + hr ≤ 16) ∧ ((d.length : Int) - nd + (od.length : Int) ≤ 16) ∧ ((r.length : Int) - nr + (rd.length : Int) ≤ 16))
 ·exact codes_ok hR hol hrl hi hnx htk hd32 hr32 hpc9 hfl hok hcn h
 ·exact codes_no hR hol hrl hi hnx htk hd32 hr32 hpc9 hfl hok hcn h
theorem lower_no {op n pc : Int} (h : ¬ (rightI op n = true ∧ plainB op = true)) : SCall Try.prog T15 7 #[jU pc, sK 0 1 1] (hq [oB 24 [jI op, jU n]]) fun v h => v = .tuple #[(pgV nS 0 0 0 0 nS nS 0 0 0 0 0 0 0), jI 12] ∧ h = hq [oB 24 [jI op, jU n]] := by
 rcases aO (rightI op n) with h1 | h1
 ·have h2 : plainB op = false := eq_false_of_ne_true fun q => h ⟨h1, q⟩
  refine zS Try.f7 f7b 146 1 fun X hX => (sd_run 69 (sd_ask 35 (.bool (rightI op n)) 26 #[.agg #[jI op, jU n]] kr kr kr kr (sd_see 35 (.bool true) (see_bool kr h1) (sd_run 4 (sd_ask 40 (.bool (plainB op)) 27 #[jI op] kr kr kr kr (sd_see 40 (.bool false) (see_bool kr h2) (sd_run 31 ?_)))))))
  refine zY (.tuple #[(pgV nS 0 0 0 0 nS nS 0 0 0 0 0 0 0), jI 12]) hX i1_ ⟨rfl, rfl⟩
 ·refine zS Try.f7 f7b 146 1 fun X hX => (sd_run 69 (sd_ask 35 (.bool (rightI op n)) 26 #[.agg #[jI op, jU n]] kr kr kr kr (sd_see 35 (.bool false) (see_bool kr h1) (sd_run 36 ?_))))
  refine zY (.tuple #[(pgV nS 0 0 0 0 nS nS 0 0 0 0 0 0 0), jI 12]) hX i1_ ⟨rfl, rfl⟩
noncomputable def f3b : Code := Try.f3.body.getD .skip
set_option maxHeartbeats 4000000 in
theorem emitnumbers_s   : SCall Try.prog T15 3 #[] (hq []) fun v h => v = .bool true ∧ h = hq [] := by
 refine zS Try.f3 f3b 69 0 fun X hX => (sd_run 12 (sd_loop 69 (cl (cl (cr (cl (cr f3b))))) [.blk 0, .next (cr (cr f3b))] kr kr kr (fun m9 s9 => ∃ (op : Nat), m9 = 42 - op ∧ (op ≤ 42) ∧ s9 = ⟨tmL [(1, jI (op : Int))], hq []⟩) (42 - 0) _ (emOf []) hX ⟨0, rfl, zo, rfl⟩ ⟨zs, zt⟩ kr ?_))
 rintro m9 s9 ⟨op, rfl, i1_0, rfl⟩ R1_ hR1_
 by_cases hlt : op < 42
 ·refine zT 5 9 ((op : Int) < 42) (sd_run 17 (sd_mid 69 (cl (cl (cr (cl (cl (cr (cl (cl (cr (cl (cr f3b))))))))))) [.next (cr (cl (cr (cl (cl (cr (cl (cl (cr (cl (cr f3b))))))))))), .next (cr (cr (cl (cl (cr (cl (cl (cr (cl (cr f3b)))))))))), .blk 1, .next (cr (cr (cl (cl (cr (cl (cr f3b))))))), .inv R1_, .blk 0, .next (cr (cr f3b))] kr kr kr (fun s9 => ∃ (b9 : Bool), s9 = ⟨tmL [(1, jI (op : Int)), (2, pT 0 0), (27, .bool b9)], hq [oB 24 [jI (op : Int), jU 0]]⟩) hX ?_ ?_))
  ·intro R2_ hR2_;rcases (by omega : op = 1 ∨ op = 2 ∨ (32 ≤ op ∧ op ≤ 38) ∨ op = 0 ∨ (3 ≤ op ∧ op < 32) ∨ 38 < op) with ho | ho | ho | ho | ho | ho
   ·refine zE 3 15 (op : Int) 1 (sd_run 13 ?_);refine sd_inv R2_ kr (hR2_ _ _ e1_ ⟨true, rfl⟩ ⟨zs, zt⟩ kr)
   ·refine zN 3 15 (op : Int) 1 (zE 3 18 (op : Int) 2 (sd_run 10 ?_));refine sd_inv R2_ kr (hR2_ _ _ e1_ ⟨true, rfl⟩ ⟨zs, zt⟩ kr)
   ·refine zN 3 15 (op : Int) 1 (zN 3 18 (op : Int) 2 (zT 4 22 ((op : Int) ≥ 32) (zT 3 25 ((op : Int) ≤ 38) (sd_run 3 ?_))));refine sd_inv R2_ kr (hR2_ _ _ e1_ ⟨true, rfl⟩ ⟨zs, zt⟩ kr)
   ·refine zN 3 15 (op : Int) 1 (zN 3 18 (op : Int) 2 (zF 4 22 ((op : Int) ≥ 32) (sd_run 6 ?_)));refine sd_inv R2_ kr (hR2_ _ _ e1_ ⟨false, rfl⟩ ⟨zs, zt⟩ kr)
   ·refine zN 3 15 (op : Int) 1 (zN 3 18 (op : Int) 2 (zF 4 22 ((op : Int) ≥ 32) (sd_run 6 ?_)));refine sd_inv R2_ kr (hR2_ _ _ e1_ ⟨false, rfl⟩ ⟨zs, zt⟩ kr)
   ·refine zN 3 15 (op : Int) 1 (zN 3 18 (op : Int) 2 (zT 4 22 ((op : Int) ≥ 32) (zF 3 25 ((op : Int) ≤ 38) (sd_run 3 ?_))));refine sd_inv R2_ kr (hR2_ _ _ e1_ ⟨false, rfl⟩ ⟨zs, zt⟩ kr)
  ·rintro s9 ⟨b9, rfl⟩;refine sd_run 1 (sd_mid 69 (cr (cl (cr (cl (cl (cr (cl (cl (cr (cl (cr f3b))))))))))) [.next (cr (cr (cl (cl (cr (cl (cl (cr (cl (cr f3b)))))))))), .blk 1, .next (cr (cr (cl (cl (cr (cl (cr f3b))))))), .inv R1_, .blk 0, .next (cr (cr f3b))] kr kr kr (fun s9 => ∃ (N9 : Int), (0 ≤ N9 ∧ N9 < 4294967296) ∧ s9 = ⟨tmL [(1, jI (op : Int)), (2, pT 0 0)], hq [oB 24 [jI (op : Int), jU N9]]⟩) hX ?_ ?_)
   ·intro R3_ hR3_;refine zB 0 27 b9 (fun hb9 => ?_) fun hb9 => ?_
    ·refine sd_run 5 ?_;refine sd_inv R3_ kr (hR3_ _ _ e1_ ⟨200, zd, rfl⟩ ⟨zs, zt⟩ kr)
    ·refine sd_run 2 ?_;refine sd_inv R3_ kr (hR3_ _ _ e1_ ⟨0, zd, rfl⟩ ⟨zs, zt⟩ kr)
   ·rintro s9 ⟨N9, j3_0, rfl⟩;refine sd_run 2 ?_
    by_cases hyes : rightI (op : Int) N9 = true ∧ plainB (op : Int) = true
    ·have hok : OkIns [((op : Int), N9)] := okI_one hyes;have hni := imm_one (op := (op : Int)) (n := N9) j3_0;refine sd_run 3 (sdC 32 7 #[jU 100, sK 1 1 1] (@lower_s ([((op : Int), N9)]) 100 1 hok (low_b hok hni) (low_right hok hni)) [some 1] ⟨jjC_b, ⟨⟩⟩ ?_);rintro Y v9 k9 ⟨c0_, d0_, r0_, nd0_, hd0_, nr0_, hr0_, fl0_, tg0_, br0_, f10_, t10_, nx0_, tk0_, C0_, OD0_, RD0_, q1_0, q1_1, q1_2, q1_3, q1_4, q1_5, q1_6, q1_7, rfl, rfl⟩;refine mkG (.tuple #[(pgV (s5 2 C0_.length) nd0_ nr0_ hd0_ hr0_ (s1 3 OD0_.length) (s1 4 RD0_.length) f10_ nx0_ t10_ br0_ tk0_ (([((op : Int), N9)]).length : Int) (C0_.length : Int)), jI 0]) [oB 24 [jI (op : Int), jU N9], oB 24 [jI (op : Int), jU N9], (iiF C0_), (inF OD0_), (inF RD0_)] ⟨cvo, cvs 0 Y, iiC_c 1, inC_c 2, inC_c 3, ⟨⟩⟩ ?_;obtain ⟨hB0, hB1, hB2, hB3⟩ := low_block hok hni q1_0 q1_1 q1_2 q1_5 q1_6 q1_7;have hB4 := hB0.len;have hB5 : u32P nx0_ := by rw [q1_3]; exact low_nx zd
     have hB6 : u32P tk0_ := by rw [q1_4]; exact low_tk _ _ _
     refine sd_run 24 (sd_loop 69 (cl (cl (cr (cr (cr (cr (cr (cl (cl (cr (cl (cl (cr (cl (cr f3b))))))))))))))) [.blk 2, .blk 1, .next (cr (cr (cl (cl (cr (cl (cr f3b))))))), .inv R1_, .blk 0, .next (cr (cr f3b))] kr kr kr (fun m9 s9 => ∃ (n : Nat), m9 = 17 - n ∧ (n ≤ 17) ∧ s9 = ⟨tmL [(1, jI (op : Int)), (3, pT 5 0), (5, jI (n : Int))], hq [none, none, (iiF C0_), (inF OD0_), (inF RD0_), oB 28 (pgL (s5 2 C0_.length) nd0_ nr0_ hd0_ hr0_ (s1 3 OD0_.length) (s1 4 RD0_.length) f10_ nx0_ t10_ br0_ tk0_ (([((op : Int), N9)]).length : Int) (C0_.length : Int))]⟩) (17 - 0) _ (emOf (eM [0,0,3,4,5,6])) hX ⟨0, rfl, zo, rfl⟩ ⟨zs, zt⟩ kr ?_);rintro m9 s9 ⟨n, rfl, i4_0, rfl⟩ R4_ hR4_
     by_cases hln : n < 17
     ·refine zT 5 38 ((n : Int) ≤ 16) (zI 11 42 .u32 (n : Int) (IntKind.u32.wrap (n : Int)) (sd_run 1 (sd_see 43 (jU ((n : Int) % 16)) (see_int (x := (Int.tmod (n : Int) 16)) kr (er zo)) (sd_run 1 (sd_make 45 32 22 4 n 6 .i64 .i64 [jU 0] (tab uC (List.replicate n (0 : Int))) kr kr kr kr zo zo kr (tab_one (enc := uC) (a := (0 : Int)) rfl _) (zI 2 47 .i64 (((16 - n) : Nat) : Int) (IntKind.i64.wrap (16 - (n : Int))) (sd_make 48 32 22 4 (16 - n) 7 .i64 .i64 [jU 0] (tab uC (List.replicate (16 - n) (0 : Int))) kr kr kr kr zo zo kr (tab_one (enc := uC) (a := (0 : Int)) rfl _) (sd_run 12 ?_))))))))
      refine sd_loop 69 (cl (cl (cr (cl (cr (cl (cl (cr (cl (cl (cr (cr (cr (cr (cr (cl (cl (cr (cl (cl (cr (cl (cr f3b))))))))))))))))))))))) [.blk 4, .next (cr (cr (cl (cl (cr (cl (cl (cr (cr (cr (cr (cr (cl (cl (cr (cl (cl (cr (cl (cr f3b)))))))))))))))))))), .blk 3, .next (cr (cr (cl (cl (cr (cr (cr (cr (cr (cl (cl (cr (cl (cl (cr (cl (cr f3b))))))))))))))))), .inv R4_, .blk 2, .blk 1, .next (cr (cr (cl (cl (cr (cl (cr f3b))))))), .inv R1_, .blk 0, .next (cr (cr f3b))] kr kr kr (fun m9 s9 => ∃ (k : Nat) (D9 : List Int) (R9 : List Int) (w9 : Nat), m9 = n - k ∧ (k ≤ n) ∧ (D9.length = n) ∧ (R9.length = w9) ∧ (w9 + n = 16) ∧ (V32 D9) ∧ (V32 R9) ∧ s9 = ⟨tmL [(1, jI (op : Int)), (3, pT 5 0), (5, jI (n : Int)), (6, pT 8 0), (7, jI (k : Int))], hq [none, none, (iiF C0_), (inF OD0_), (inF RD0_), oB 28 (pgL (s5 2 C0_.length) nd0_ nr0_ hd0_ hr0_ (s1 3 OD0_.length) (s1 4 RD0_.length) f10_ nx0_ t10_ br0_ tk0_ (([((op : Int), N9)]).length : Int) (C0_.length : Int)), (uF D9), (uF R9), oB 35 (slw 100 (sK 6 n n) (sK 7 w9 w9) ((n : Int) % 16) false false false 0 0 0 0 0 false false 8589934592 false)]⟩) (n - 0) _ (emOf (eM [0,0,3,4,5,6,7,8,9])) hX ⟨0, (List.replicate n 0), (List.replicate (16 - n) 0), (16 - n), rfl, zo, aN, aN, zo, (V32.rep _), (V32.rep _), rfl⟩ ⟨sub_of kr kr ⟨iiC_b, inC_b, inC_b, brn, bk_flat (tab uC (List.replicate n (0 : Int))) kr (tab_plain uC_pl _) (by rfl), bk_flat (tab uC (List.replicate (16 - n) (0 : Int))) kr (tab_plain uC_pl _) (by rfl), brn, ⟨⟩⟩, zt⟩ kr ?_
      rintro m9 s9 ⟨k, D9, R9, w9, rfl, i5_0, i5_1, i5_2, i5_3, i5_4, i5_5, rfl⟩ R5_ hR5_
      by_cases hlk : k < n
      ·have hkk : (k : Int) * (k : Int) ≤ 256 := by have := Nat.mul_le_mul (show k ≤ 16 by omega) (show k ≤ 16 by omega); exact_mod_cast this
       have hk0 : 0 ≤ (k : Int) * (k : Int) := Int.mul_nonneg zo zo;refine zT 6 52 ((k : Int) < (n : Int)) (zI 14 60 .i64 ((k : Int) * (k : Int)) (IntKind.i64.wrap ((k : Int) * (k : Int))) (zI 1 61 .u32 ((k : Int) * (k : Int)) (IntKind.u32.wrap ((k : Int) * (k : Int))) (zI 1 62 .u32 (4294967295 - (k : Int) * (k : Int)) (IntKind.u32.wrap (4294967295 - ((k : Int) * (k : Int)))) (zX 0 63 (pT 6 (0 + k * 1)) k n ?_))));obtain ⟨a2, ha2⟩ := zR D9 k;refine sd_st 22 6 (0 + k * 1) (jU (4294967295 - (k : Int) * (k : Int))) (tab uC ((D9).set k (4294967295 - (k : Int) * (k : Int)))) (cells := tab uC D9) (e := 22) kr kr kr kr (st_cell (k := k) (j := 0) (a' := (4294967295 - (k : Int) * (k : Int))) uC_len kr kr ha2 kr rfl) (zI 6 54 .i64 ((k + 1 : Nat) : Int) (IntKind.i64.wrap ((k : Int) + 1)) (sd_run 2 ?_));refine sd_inv R5_ kr (hR5_ _ (n - (k + 1)) _ (emOf (eM [0,0,3,4,5,6,7,8,9])) zo ⟨k + 1, ((D9).set k (4294967295 - (k : Int) * (k : Int))), R9, w9, rfl, zo, (by rw [et]; exact i5_1), i5_2, i5_3, (i5_4.set _ ⟨by omega, by omega⟩), i5_5, rfl⟩ ⟨zs, zt⟩ kr)
      ·obtain rfl : n = k := by omega
       have hD32 := i5_4; have hR32 := i5_5;have hf9 : 0 ≤ ((n : Int) % 16) ∧ ((n : Int) % 16) ≤ 15 := by omega
       have hok9 : stOk D9 R9 ((n : Int) % 16) = true := stOk_of zo zo hf9.2;obtain rfl : n = D9.length := i5_1.symm;obtain rfl : w9 = R9.length := i5_2.symm;refine zF 6 52 ((D9.length : Int) < (D9.length : Int)) (sd_run 12 (sdCp 66 8 #[(pgV (s5 2 C0_.length) nd0_ nr0_ hd0_ hr0_ (s1 3 OD0_.length) (s1 4 RD0_.length) f10_ nx0_ t10_ br0_ tk0_ (([((op : Int), N9)]).length : Int) (C0_.length : Int)), (stw 100 (.slice (some ⟨6, 0, none⟩) D9.length D9.length) (.slice (some ⟨7, 0, none⟩) R9.length R9.length) ((D9.length : Int) % 16) false false false 0 0 0 0 0 false false 8589934592 false)] (@codes_any C0_ OD0_ RD0_ nd0_ nr0_ hd0_ hr0_ f10_ nx0_ t10_ br0_ tk0_ (([((op : Int), N9)]).length : Int) (⟨100, ((D9.length : Int) % 16), 0, 0, 0, 0, 0, 8589934592, false, false, false, false, false, false⟩ : Sx) D9 [] R9 [] false D9.length R9.length hB0 zo zo hB1 hB5 hB6 hD32 hR32 (show (0 : Int) ≤ 100 ∧ (100 : Int) < 4294967296 by decide) hf9.1 hok9 (show (0 : Int) ≤ 8589934592 ∧ (8589934592 : Int) < 18446744073709551616 by decide)) (eM [3,4,5,7,8]) ⟨iiC_b, inC_b, inC_b, bk_flat (tab uC D9) kr (tab_plain uC_pl _) (congrArg (tab uC) (aY _).symm), bk_flat (tab uC R9) kr (tab_plain uC_pl _) (congrArg (tab uC) (aY _).symm), ⟨⟩⟩ ?_));rintro v9 k9 ⟨rfl, rfl⟩;refine ⟨rfl, .bool true, kr, ?_⟩;refine zI 10 40 .i64 ((D9.length + 1 : Nat) : Int) (IntKind.i64.wrap ((D9.length : Int) + 1)) (sd_run 2 ?_)
       refine sd_inv R4_ kr (hR4_ _ (17 - (D9.length + 1)) _ (emOf (eM [0,0,3,4,5,6])) zo ⟨(D9.length + 1), rfl, zo, rfl⟩ ⟨zs, zt⟩ kr)
     ·obtain rfl : n = 17 := by omega
      refine zF 5 38 (((17 : Nat) : Int) ≤ 16) (zI 12 11 .i64 ((op + 1 : Nat) : Int) (IntKind.i64.wrap ((op : Int) + 1)) (sd_run 2 ?_));refine sd_inv R1_ kr (hR1_ _ (42 - (op + 1)) _ (emOf []) zo ⟨op + 1, rfl, zo, rfl⟩ ⟨zs, zt⟩ kr)
    ·have hno := hyes;refine sd_run 3 (zG 32 7 #[jU 100, sK 1 1 1] (@lower_no (op : Int) N9 100 hno) [some 1] ?_);rintro v9 k9 ⟨rfl, rfl⟩;refine ⟨rfl, .tuple #[(pgV nS 0 0 0 0 nS nS 0 0 0 0 0 0 0), jI 12], kr, ?_⟩;refine zI 23 11 .i64 ((op + 1 : Nat) : Int) (IntKind.i64.wrap ((op : Int) + 1)) (sd_run 2 ?_);refine sd_inv R1_ kr (hR1_ _ (42 - (op + 1)) _ (emOf []) zo ⟨op + 1, rfl, zo, rfl⟩ ⟨zs, zt⟩ kr)
 ·obtain rfl : op = 42 := by omega
  refine zF 5 9 (((42 : Nat) : Int) < 42) (sd_run 10 (sd_ask 68 (.bool true) 9 #[] kr kr kr rfl (sd_run 4 ?_)));refine zY (.bool true) hX [] ⟨rfl, rfl⟩
end Ls
end Go.Proofs.Ytihacfclecanjaa
