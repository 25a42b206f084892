/- Chapter 19: what sweep leaves is right: the plain law. -/
import Derived.Test.YtgpphhdndmdlgaaKj
namespace Go.Proofs.Ytgpphhdndmdlgaa
open Go Go.Ev Go.RowKit
set_option linter.unusedVariables false
set_option linter.unusedSimpArgs false
namespace Ls
def Le (u v : List Bool) : Prop := ∀ i : Nat, u[i]? = some true → v[i]? = some true
theorem Le.trans {u v w : List Bool} (h : Le u v) (k : Le v w) : Le u w := fun i q => k i (h i q)
theorem mark_le (u : List Bool) (x : Int) : Le u (mark u x) := fun i q => by
 unfold mark
 split
 ·exact q
 ·rw [List.getElem?_set]
  split
  ·rename_i e; subst e; rw [if_pos (List.getElem?_eq_some_iff.1 q).1]
  ·exact q
theorem outS_le : ∀ (xs : List Int) (u : List Bool), Le u (outS u xs)
 | [], u => fun i q => q
 | x :: xs, u => (mark_le u x).trans (outS_le xs (mark u x))
theorem mark_in {u : List Bool} {x : Int} (h0 : 0 ≤ x) (h : x < (u.length : Int)) : (mark u x)[x.toNat]? = some true := by
 unfold mark
 rw [if_neg (by omega), List.getElem?_set, if_pos rfl, if_pos (by omega)]
theorem outS_in : ∀ (xs : List Int) (u : List Bool) (x : Int), x ∈ xs → 0 ≤ x → x < (u.length : Int) → (outS u xs)[x.toNat]? = some true
 | y :: xs, u, x, hm, h0, h => by
  rcases List.mem_cons.1 hm with rfl | hm
  ·exact outS_le xs (mark u x) _ (mark_in h0 h)
  ·exact outS_in xs (mark u y) x hm h0 (by simpa using h)
theorem mark_ne {u : List Bool} {x : Int} {i : Nat} (h : x.toNat ≠ i) : (mark u x)[i]? = u[i]? := by
 unfold mark
 split
 ·rfl
 ·rw [List.getElem?_set, if_neg h]
theorem outS_ne : ∀ (xs : List Int) (u : List Bool) (i : Nat), (∀ x ∈ xs, x.toNat ≠ i) → (outS u xs)[i]? = u[i]?
 | [], u, i, h => rfl
 | x :: xs, u, i, h => (outS_ne xs (mark u x) i fun y hy => h y (List.mem_cons_of_mem _ hy)).trans (mark_ne (h x (List.mem_cons_self ..)))
theorem bkStep_le (v : List Bool) (i : Nat) (x : II) : Le v (bkStep v i x) := by
 unfold bkStep
 split
 ·exact outS_le _ _
 ·exact fun i q => q
theorem bkU_le (c : List II) (u : List Bool) : ∀ j, Le u (bkU c u j)
 | 0 => fun i q => q
 | j + 1 => by
  unfold bkU
  split
  ·exact (bkU_le c u j).trans (bkStep_le _ _ _)
  ·exact bkU_le c u j
theorem bkU_closed {c : List II} {u : List Bool} {nd nr : Int} (hu : u.length = c.length) (hc : ∀ (j : Nat) (x : II), c[j]? = some x → madeB nd nr x j = true) : ∀ j, j ≤ c.length → ∀ (i : Nat) (x : II), c.length - j ≤ i → c[i]? = some x → (x.1 = 3 ∨ x.1 = 4) → (bkU c u j)[i]? = some true → (bkU c u j)[x.2.2.1.toNat]? = some true ∧ (bkU c u j)[x.2.2.2.1.toNat]? = some true := by
 intro j
 induction j with
 | zero => intro _ i x hi hx; have := (List.getElem?_eq_some_iff.1 hx).1; omega
 | succ j ih =>
  intro hj i x hi hx hop hb
  have hm : c[c.length - (j + 1)]? = some (c[c.length - (j + 1)]'(by omega)) := List.getElem?_eq_getElem _
  generalize c[c.length - (j + 1)]'(by omega) = y at hm
  have e : bkU c u (j + 1) = bkStep (bkU c u j) (c.length - (j + 1)) y := by
   show (match c[c.length - (j + 1)]? with | some x => _ | none => _) = _
   rw [hm]
  rw [e] at hb ⊢
  have hlen : (bkU c u j).length = c.length := by rw [bkU_len, hu]
  have same : ∀ q, c.length - (j + 1) ≤ q → (bkStep (bkU c u j) (c.length - (j + 1)) y)[q]? = (bkU c u j)[q]? := fun q hq => by
   unfold bkStep
   split
   ·rename_i hs
    obtain ⟨⟨y1, y2⟩, y3, y4⟩ := made_ab (hc _ y hm) hs.2
    exact outS_ne _ _ _ fun z hz => by simp at hz; rcases hz with rfl | rfl <;> omega
   ·rfl
  rw [same i hi] at hb
  by_cases hq : c.length - j ≤ i
  ·obtain ⟨g1, g2⟩ := ih (by omega) i x hq hx hop hb
   exact ⟨bkStep_le _ _ _ _ g1, bkStep_le _ _ _ _ g2⟩
  ·have hie : i = c.length - (j + 1) := by omega
   subst hie
   rw [hm] at hx; cases hx
   obtain ⟨⟨y1, y2⟩, y3, y4⟩ := made_ab (hc _ _ hm) hop
   rw [bkStep_yes hb hop]
   exact ⟨outS_in _ _ _ (by simp) y1 (by omega), outS_in _ _ _ (by simp) y3 (by omega)⟩
structure PI (nd nr : Int) (u : List Bool) (k : Nat) (q : List Int × List II) : Prop where
 code : ∀ (j : Nat) (y : II), q.2[j]? = some y → madeB nd nr y j = true
 imm : ∀ y ∈ q.2, 0 ≤ y.2.2.2.2 ∧ y.2.2.2.2 < 4294967296
 pl : ∀ i : Nat, i < k → u[i]? = some true → ∃ p, q.1[i]? = some p ∧ 0 ≤ p ∧ p < (q.2.length : Int)
theorem plS_inv {c : List II} {u : List Bool} {nd nr : Int} (hu : u.length = c.length) (hc : ∀ (j : Nat) (x : II), c[j]? = some x → madeB nd nr x j = true) (hi : ∀ x ∈ c, 0 ≤ x.2.2.2.2 ∧ x.2.2.2.2 < 4294967296)
    (hcl : ∀ (i : Nat) (x : II), c[i]? = some x → (x.1 = 3 ∨ x.1 = 4) → u[i]? = some true → u[x.2.2.1.toNat]? = some true ∧ u[x.2.2.2.1.toNat]? = some true) : ∀ k, k ≤ c.length → PI nd nr u k (plS c u k) := by
 intro k
 induction k with
 | zero => exact fun _ => ⟨fun j y h => (by simp [plS] at h), fun y h => (by simp [plS] at h), fun i h => by omega⟩
 | succ k ih =>
  intro hk
  have h := ih (by omega)
  have hx : c[k]? = some (c[k]'(by omega)) := List.getElem?_eq_getElem _
  generalize c[k]'(by omega) = x at hx
  have hb : u[k]? = some (u[k]'(by omega)) := List.getElem?_eq_getElem _
  generalize u[k]'(by omega) = b at hb
  cases b with
  | false =>
   rw [plS_no hx hb]
   refine ⟨h.code, h.imm, fun i hik hu' => ?_⟩
   rcases (by omega : i < k ∨ i = k) with q | rfl
   ·exact h.pl i q hu'
   ·rw [hb] at hu'; cases hu'
  | true =>
   rw [plS_yes hx hb]
   have hpl := plS_len c u k
   generalize hP : (plS c u k).1 = P at *
   generalize hC : (plS c u k).2 = C at *
   have hh := h
   have hm := hc k x hx
   have hplX : madeB nd nr (plX (P.set k ((C.length : Nat) : Int)) ((C.length : Nat) : Int) x) (C.length : Nat) = true ∧ (plX (P.set k ((C.length : Nat) : Int)) ((C.length : Nat) : Int) x).2.2.2.2 = x.2.2.2.2 := by
    by_cases hop : x.1 = 3 ∨ x.1 = 4
    ·obtain ⟨⟨y1, y2⟩, y3, y4⟩ := made_ab hm hop
     obtain ⟨g1, g2⟩ := hcl k x hx hop hb
     obtain ⟨p1, r1, r2, r3⟩ := h.pl _ (by omega) g1
     obtain ⟨p2, r4, r5, r6⟩ := h.pl _ (by omega) g2
     rw [hP] at r1 r4; rw [hC] at r3 r6
     rw [plX_yes (A := x.2.2.1.toNat) (B := x.2.2.2.1.toNat) (b1 := p1) (b2 := p2) hop (by omega) (by omega) (by rw [List.getElem?_set, if_neg (by omega)]; exact r1) (by rw [List.getElem?_set, if_neg (by omega)]; exact r4)]
     refine ⟨?_, rfl⟩
     obtain ⟨o, dd, a, b', im⟩ := x
     have := (made_cases hm).2
     unfold madeB valB
     simp only at hop this ⊢
     rcases hop with rfl | rfl <;> simp <;> omega
    ·rw [plX_no hop]
     refine ⟨?_, rfl⟩
     obtain ⟨o, dd, a, b', im⟩ := x
     have := (made_cases hm).2
     unfold madeB
     simp only at hop this ⊢
     rcases (by omega : o = 0 ∨ o = 1 ∨ o = 2) with rfl | rfl | rfl <;> simp <;> omega
   refine ⟨fun j y hy => ?_, fun y hy => ?_, fun i hik hu' => ?_⟩
   ·simp only at hy
    rw [List.getElem?_append] at hy
    split at hy
    ·exact h.code j y (by rw [hC]; exact hy)
    ·have : j = C.length := by
       have := (List.getElem?_eq_some_iff.1 hy).1
       simp at this; omega
     subst this
     simp at hy
     subst hy
     exact hplX.1
   ·simp only at hy
    rcases List.mem_append.1 hy with hy | hy
    ·exact h.imm y (by rw [hC]; exact hy)
    ·simp at hy; subst hy; rw [hplX.2]; exact hi x (List.mem_of_getElem? hx)
   ·simp only
    rcases (by omega : i < k ∨ i = k) with q | rfl
    ·obtain ⟨p, r1, r2, r3⟩ := h.pl i q hu'
     rw [hP] at r1; rw [hC] at r3
     exact ⟨p, by rw [List.getElem?_set, if_neg (by omega)]; exact r1, r2, by simp; omega⟩
    ·exact ⟨((C.length : Nat) : Int), by rw [List.getElem?_set, if_pos rfl, if_pos (by omega)], by omega, by simp; omega⟩
theorem sweep_right {c : List II} {od rd : List Int} {nd nr hd hr fl tg br ct : Int} (hR : RightP c od rd nd nr hd hr fl tg br ct (c.length : Int)) (hi : ∀ x ∈ c, 0 ≤ x.2.2.2.2 ∧ x.2.2.2.2 < 4294967296) :
    RightP (swC c od rd fl tg) (movL (swP c od rd fl tg) od) (movL (swP c od rd fl tg) rd) nd nr hd hr (movO (swP c od rd fl tg) fl) (movO (swP c od rd fl tg) tg) br ct ((swC c od rd fl tg).length : Int) ∧ (∀ x ∈ swC c od rd fl tg, 0 ≤ x.2.2.2.2 ∧ x.2.2.2.2 < 4294967296) := by
 have hu0 : (outS (outS (outS (List.replicate c.length false) od) rd) [fl, tg]).length = c.length := by simp
 have hul : (swU c od rd fl tg).length = c.length := by unfold swU; rw [bkU_len, hu0]
 have hI := plS_inv (u := swU c od rd fl tg) hul hR.code hi (fun i x hx hop hb => bkU_closed hu0 hR.code c.length (Nat.le_refl _) i x (by omega) hx hop hb) c.length (Nat.le_refl _)
 have base : Le (outS (outS (outS (List.replicate c.length false) od) rd) [fl, tg]) (swU c od rd fl tg) := bkU_le _ _ _
 have at_ : ∀ x : Int, (0 ≤ x ∧ x < (c.length : Int)) → (swU c od rd fl tg)[x.toNat]? = some true → valB (movI (swP c od rd fl tg) x) ((swC c od rd fl tg).length : Int) = true := fun x hx hm => by
  obtain ⟨p, r1, r2, r3⟩ := hI.pl x.toNat (by omega) hm
  refine valB_iff.2 ?_
  unfold movI
  rw [show (swP c od rd fl tg).getD x.toNat 0 = p by rw [List.getD_eq_getElem?_getD]; unfold swP; rw [r1]; rfl]
  exact ⟨r2, r3⟩
 have hod : ∀ x ∈ od, valB (movI (swP c od rd fl tg) x) ((swC c od rd fl tg).length : Int) = true := fun x hx => by
  obtain ⟨k, hk⟩ := List.mem_iff_getElem?.1 hx
  have hv := valB_iff.1 (hR.od_ k x hk)
  exact at_ x hv (base _ (outS_le _ _ _ (outS_le _ _ _ (outS_in _ _ _ hx hv.1 (by simpa using hv.2)))))
 have hrd : ∀ x ∈ rd, valB (movI (swP c od rd fl tg) x) ((swC c od rd fl tg).length : Int) = true := fun x hx => by
  obtain ⟨k, hk⟩ := List.mem_iff_getElem?.1 hx
  have hv := valB_iff.1 (hR.rd_ k x hk)
  exact at_ x hv (base _ (outS_le _ _ _ (outS_in _ _ _ hx hv.1 (by simpa using hv.2))))
 have ho : ∀ x ∈ [fl, tg], (x = -1 ∨ valB x (c.length : Int) = true) → movO (swP c od rd fl tg) x = -1 ∨ valB (movO (swP c od rd fl tg) x) ((swC c od rd fl tg).length : Int) = true := fun x hx hv => by
  unfold movO
  by_cases hx1 : x = -1
  ·rw [if_pos hx1]; exact .inl rfl
  ·rw [if_neg hx1]
   have hv := valB_iff.1 (hv.resolve_left hx1)
   exact .inr (at_ x hv (base _ (outS_in _ _ _ hx hv.1 (by simpa using hv.2))))
 refine ⟨⟨rfl, Nat.le_trans (plS_le c _ _) hR.len, hR.nd_, hR.nr_, hR.hd_, hR.hr_, hR.ct_, hI.code, fun k x hx => ?_, fun k x hx => ?_, ho fl (by simp) hR.fl_, ho tg (by simp) hR.tg_, hR.br_.imp id fun ⟨h1, h2, h3⟩ => ⟨h1, h2, by unfold movO; rw [if_pos h3]⟩⟩, hI.imm⟩
 ·obtain ⟨y, hy, rfl⟩ := List.mem_map.1 (List.mem_of_getElem? hx)
  exact hod y hy
 ·obtain ⟨y, hy, rfl⟩ := List.mem_map.1 (List.mem_of_getElem? hx)
  exact hrd y hy
end Ls
end Go.Proofs.Ytgpphhdndmdlgaa
