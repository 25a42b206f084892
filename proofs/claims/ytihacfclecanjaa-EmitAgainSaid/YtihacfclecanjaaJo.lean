/- Chapter 22: what the intervals of a block are. -/
import Derived.Test.YtihacfclecanjaaJl
set_option linter.unusedVariables false
set_option linter.unusedSimpArgs false
namespace Go.Proofs.Ytihacfclecanjaa
open Go Go.Ev Go.RowKit
set_option maxRecDepth 100000
namespace Ls
structure Iv (n : Nat) (l : List IV) (S : Nat → Prop) (G : Nat → Int → Prop) : Prop where
 len : l.length = n
 at_ : ∀ (i : Nat) (a : IV), l[i]? = some a → a.1 = (i : Int) ∧ a.2.1 = (i : Int) ∧ (i : Int) ≤ a.2.2 ∧ a.2.2 ≤ (n : Int) ∧ ((i : Int) < a.2.2 ↔ S i) ∧ ∀ t, G i t → t ≤ a.2.2
theorem Iv.mono {n : Nat} {l : List IV} {S S' : Nat → Prop} {G G' : Nat → Int → Prop} (h : Iv n l S G) (hs : ∀ i, S i ↔ S' i) (hg : ∀ i t, G' i t → G i t) : Iv n l S' G' :=
 ⟨h.len, fun i a ha => by
  obtain ⟨h1, h2, h3, h4, h5, h6⟩ := h.at_ i a ha
  exact ⟨h1, h2, h3, h4, h5.trans (hs i), fun t ht => h6 t (hg i t ht)⟩⟩
theorem iv_seed (n : Nat) : Iv n (seedl n) (fun _ => False) (fun _ _ => False) := by
 refine ⟨by simp, fun i a h => ?_⟩
 have : a = ((i : Int), (i : Int), (i : Int)) := by
  obtain ⟨hi, rfl⟩ := List.getElem?_eq_some_iff.1 h;simp [seedl]
 subst this;have hi := (List.getElem?_eq_some_iff.1 h).1;simp at hi;refine ⟨rfl, rfl, Int.le_refl _, ?_, ⟨fun h => ?_, fun h => h.elim⟩, fun _ h => h.elim⟩ <;> (try dsimp only at *) <;> omega
theorem Iv.use {n : Nat} {l : List IV} {S : Nat → Prop} {G : Nat → Int → Prop} (h : Iv n l S G) {x : Nat} {t : Int} (hx : x < n) (h1 : (x : Int) < t) (h2 : t ≤ (n : Int)) : Iv n (usel t l x) (fun i => S i ∨ i = x) (fun i u => G i u ∨ (i = x ∧ u = t)) := by
 refine ⟨by rw [usel_len]; exact h.len, fun i a ha => ?_⟩;have hxl : x < l.length := by rw [h.len]; exact hx
 have e : usel t l x = l.set x ((l[x]).1, (l[x]).2.1, max (l[x]).2.2 t) := by
  unfold usel;rw [List.getElem?_eq_getElem hxl]
 rw [e, List.getElem?_set] at ha
 by_cases hi : x = i
 ·rw [if_pos hi, if_pos hxl] at ha;cases ha;obtain ⟨g1, g2, g3, g4, g5, g6⟩ := h.at_ x _ (List.getElem?_eq_getElem hxl);subst hi;refine ⟨g1, g2, ?_, ?_, ⟨fun _ => .inr rfl, fun _ => ?_⟩, fun u hu => ?_⟩
  ·dsimp only; omega
  ·dsimp only; omega
  ·dsimp only; omega
  ·dsimp only;rcases hu with hu | ⟨_, hu⟩
   ·have := g6 u hu; omega
   ·omega
 ·rw [if_neg hi] at ha;obtain ⟨g1, g2, g3, g4, g5, g6⟩ := h.at_ i a ha;refine ⟨g1, g2, g3, g4, g5.trans ⟨.inl, fun q => q.elim id fun q => absurd q.symm hi⟩, fun u hu => ?_⟩;rcases hu with hu | ⟨q, _⟩
  ·exact g6 u hu
  ·exact absurd q.symm hi
def cu (c : List II) (k i : Nat) : Prop := ∃ j x, j < k ∧ c[j]? = some x ∧ (x.1 = 3 ∨ x.1 = 4) ∧ (x.2.2.1 = (i : Int) ∨ x.2.2.2.1 = (i : Int))
def cg (c : List II) (k i : Nat) (t : Int) : Prop := ∃ (j : Nat) (x : II), j < k ∧ c[j]? = some x ∧ (x.1 = 3 ∨ x.1 = 4) ∧ (x.2.2.1 = (i : Int) ∨ x.2.2.2.1 = (i : Int)) ∧ t = (j : Int)
theorem iv_code {c : List II} {nd nr : Int} (hc : ∀ (k : Nat) (x : II), c[k]? = some x → madeB nd nr x k = true) : ∀ k, k ≤ c.length → Iv c.length (codeL c k) (cu c k) (cg c k) := by
 intro k
 induction k with
 | zero => exact fun _ => (iv_seed c.length).mono (fun i => ⟨fun h => h.elim, fun ⟨j, _, h, _⟩ => by omega⟩) (fun i t ⟨j, _, h, _⟩ => by omega)
 | succ k ih =>
  intro hk;have hx : c[k]? = some (c[k]'(by omega)) := List.getElem?_eq_getElem _;generalize c[k]'(by omega) = x at hx;have h0 := ih (by omega)
  by_cases hop : x.1 = 3 ∨ x.1 = 4
  ·obtain ⟨⟨a1, a2⟩, b1, b2⟩ := made_ab (hc k x hx) hop;obtain ⟨A, hA⟩ := Int.eq_ofNat_of_zero_le a1;obtain ⟨B, hB⟩ := Int.eq_ofNat_of_zero_le b1;rw [codeL_use hx hop, hA, hB, useI_nat, useI_nat];refine ((h0.use (x := A) (t := k) zo zo zo).use (x := B) (t := k) zo zo zo).mono (fun i => ⟨?_, ?_⟩) (fun i t => ?_)
   ·rintro ((⟨j, y, h1, h2, h3, h4⟩ | rfl) | rfl)
    ·exact ⟨j, y, by omega, h2, h3, h4⟩
    ·exact ⟨k, x, by omega, hx, hop, .inl hA⟩
    ·exact ⟨k, x, by omega, hx, hop, .inr hB⟩
   ·rintro ⟨j, y, h1, h2, h3, h4⟩
    by_cases hj : j = k
    ·subst hj; rw [hx] at h2; cases h2;rcases h4 with h4 | h4
     ·exact .inl (.inr (by omega))
     ·exact .inr (by omega)
    ·exact .inl (.inl ⟨j, y, by omega, h2, h3, h4⟩)
   ·rintro ⟨j, y, h1, h2, h3, h4, h5⟩
    by_cases hj : j = k
    ·subst hj; rw [hx] at h2; cases h2;rcases h4 with h4 | h4
     ·exact .inl (.inr ⟨by omega, h5⟩)
     ·exact .inr ⟨by omega, h5⟩
    ·exact .inl (.inl ⟨j, y, by omega, h2, h3, h4, h5⟩)
  ·rw [codeL_no hx hop];refine h0.mono (fun i => ⟨?_, ?_⟩) (fun i t => ?_)
   ·rintro ⟨j, y, h1, h2, h3, h4⟩; exact ⟨j, y, by omega, h2, h3, h4⟩
   ·rintro ⟨j, y, h1, h2, h3, h4⟩
    by_cases hj : j = k
    ·subst hj; rw [hx] at h2; cases h2; exact absurd h3 hop
    ·exact ⟨j, y, by omega, h2, h3, h4⟩
   ·rintro ⟨j, y, h1, h2, h3, h4, h5⟩
    by_cases hj : j = k
    ·subst hj; rw [hx] at h2; cases h2; exact absurd h3 hop
    ·exact ⟨j, y, by omega, h2, h3, h4, h5⟩
theorem iv_out {n : Nat} : ∀ (xs : List Int) {l : List IV} {S : Nat → Prop} {G : Nat → Int → Prop}, Iv n l S G → (∀ x ∈ xs, 0 ≤ x ∧ x < (n : Int)) → Iv n (outL n l xs) (fun i => S i ∨ (i : Int) ∈ xs) (fun i t => G i t ∨ ((i : Int) ∈ xs ∧ t = (n : Int)))
 | [], l, S, G, h, _ => h.mono (fun i => by simp) (fun i t h => by simpa using h)
 | x :: xs, l, S, G, h, hx => by
  obtain ⟨x1, x2⟩ := hx x (List.mem_cons_self ..);obtain ⟨X, rfl⟩ := Int.eq_ofNat_of_zero_le x1;have := iv_out xs (h.use (x := X) (t := n) (by omega) x2 (Int.le_refl _)) (fun y hy => hx y (List.mem_cons_of_mem _ hy));show Iv n (outL n (useI n l X) xs) _ _;rw [useI_nat];refine this.mono (fun i => ?_) (fun i t hg => ?_)
  ·simp only [List.mem_cons];constructor
   ·rintro ((h | rfl) | h)
    ·exact .inl h
    ·exact .inr (.inl rfl)
    ·exact .inr (.inr h)
   ·rintro (h | h | h)
    ·exact .inl (.inl h)
    ·exact .inl (.inr (by omega))
    ·exact .inr h
  ·rcases hg with hg | ⟨hg, ht⟩
   ·exact .inl (.inl hg)
   ·rcases List.mem_cons.1 hg with h | h
    ·exact .inl (.inr ⟨by omega, ht⟩)
    ·exact .inr ⟨h, ht⟩
theorem iv_one {n : Nat} {l : List IV} {S : Nat → Prop} {G : Nat → Int → Prop} (h : Iv n l S G) {x : Int} (hx : x = -1 ∨ valB x n = true) : Iv n (useI n l x) (fun i => S i ∨ (i : Int) = x) (fun i t => G i t ∨ ((i : Int) = x ∧ t = (n : Int))) := by
 rcases hx with rfl | hx
 ·rw [useI_no (by omega)];exact h.mono (fun i => ⟨.inl, fun q => q.elim id fun q => by omega⟩) (fun i t q => q.elim id fun q => by omega)
 ·obtain ⟨x1, x2⟩ := valB_iff.1 hx;obtain ⟨X, rfl⟩ := Int.eq_ofNat_of_zero_le x1;rw [useI_nat]
  exact (h.use (x := X) (t := n) (by omega) x2 (Int.le_refl _)).mono (fun i => by constructor <;> (rintro (h | h); exact .inl h; exact .inr (by omega))) (fun i t q => by
   rcases q with q | ⟨q1, q2⟩
   ·exact .inl q
   ·exact .inr ⟨by omega, q2⟩)
theorem iv_of {c : List II} {od rd : List Int} {nd nr hd hr fl tg br ct : Int} (h : RightP c od rd nd nr hd hr fl tg br ct (c.length : Int)) : Iv c.length (ofL c od rd fl tg) (fun i => cu c c.length i ∨ (i : Int) ∈ od ∨ (i : Int) ∈ rd ∨ (i : Int) = fl ∨ (i : Int) = tg) (fun i t => cg c c.length i t ∨ (((i : Int) ∈ od ∨ (i : Int) ∈ rd ∨ (i : Int) = fl ∨ (i : Int) = tg) ∧ t = (c.length : Int))) := by
 have h1 := iv_code h.code c.length (Nat.le_refl _);have h2 := iv_out od h1 (fun x hx => by obtain ⟨j, hj⟩ := List.getElem?_of_mem hx; exact valB_iff.1 (h.od_ j x hj));have h3 := iv_out rd h2 (fun x hx => by obtain ⟨j, hj⟩ := List.getElem?_of_mem hx; exact valB_iff.1 (h.rd_ j x hj));have h4 := iv_one h3 h.fl_;have h5 := iv_one h4 h.tg_;refine h5.mono (fun i => ?_) (fun i t q => ?_)
 ·simp only [or_assoc]
 ·rcases q with q | ⟨q | q | q | q, ht⟩
  ·exact .inl (.inl (.inl (.inl q)))
  ·exact .inl (.inl (.inl (.inr ⟨q, ht⟩)))
  ·exact .inl (.inl (.inr ⟨q, ht⟩))
  ·exact .inl (.inr ⟨q, ht⟩)
  ·exact .inr ⟨q, ht⟩
theorem ivs_of {c : List II} {od rd : List Int} {nd nr hd hr fl tg br ct : Int} (h : RightP c od rd nd nr hd hr fl tg br ct (c.length : Int)) : Ivs (ofL c od rd fl tg) :=
 ⟨fun i x hx => by
  obtain ⟨_, h1, h2, h3, _⟩ := (iv_of h).at_ i x hx
  rw [ofL_len]; exact ⟨h1, h2, h3⟩⟩
end Ls
end Go.Proofs.Ytihacfclecanjaa
