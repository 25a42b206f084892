/- Chapter 20: intervals. -/
import Derived.Test.YtahikechkggbfaaLc
namespace Go.Proofs.Ytahikechkggbfaa
open Go Go.Ev Go.RowKit
set_option linter.unusedVariables false
set_option linter.unusedSimpArgs false
set_option maxRecDepth 100000
namespace Lm
abbrev IV := Int × Int × Int
def ivC (i : IV) : List Value := [.int .i64 i.1, .int .i64 i.2.1, .int .i64 i.2.2]
def ivs (l : List IV) : List Value := l.flatMap ivC
theorem ivs_snoc (l : List IV) (i : IV) : ivs (l ++ [i]) = ivs l ++ ivC i := by simp [ivs]
theorem ivs_len (l : List IV) : (ivs l).length = l.length * 3 := by
  induction l with
  | nil => rfl
  | cons a l ih => simp only [ivs, List.flatMap_cons, List.length_append] at ih ⊢; rw [ih]; simp [ivC]; omega
theorem ivs_at : ∀ (l : List IV) (k : Nat) (i : IV), l[k]? = some i → ((ivs l).drop (0 + k * 3)).take 3 = ivC i := by
  intro l
  induction l with
  | nil => intro k i h; simp at h
  | cons a l ih =>
    intro k i h
    cases k with
    | zero => simp at h; subst h; simp [ivs, ivC]
    | succ k =>
      have h2 := ih k i (by simpa using h)
      have e : (ivs (a :: l)).drop (0 + (k + 1) * 3) = (ivs l).drop (0 + k * 3) := by
        show (ivC a ++ ivs l).drop _ = _
        rw [show 0 + (k + 1) * 3 = (ivC a).length + (0 + k * 3) by simp [ivC]; omega, List.drop_length_add_append]
      rw [e, h2]
theorem ivs_cell (l : List IV) (k : Nat) (i : IV) (f : Nat) (h : l[k]? = some i) (hf : f < 3) : (ivs l)[0 + k * 3 + f]? = (ivC i)[f]? := by
  have h2 := ivs_at l k i h
  rw [← h2, List.getElem?_take_of_lt hf, List.getElem?_drop]
theorem ivs_set : ∀ (l : List IV) (x : Nat) (i : IV) (t : Int), l[x]? = some i → (ivs l).set (0 + x * 3 + 2) (.int .i64 t) = ivs (l.set x (i.1, i.2.1, t)) := by
  intro l
  induction l with
  | nil => intro k i t h; simp at h
  | cons a l ih =>
    intro k i t h
    cases k with
    | zero => simp at h; subst h; simp [ivs, ivC]
    | succ k =>
      have h2 := ih k i t (by simpa using h)
      show (ivC a ++ ivs l).set _ _ = ivC a ++ ivs (l.set k (i.1, i.2.1, t))
      rw [← h2, show 0 + (k + 1) * 3 + 2 = (0 + k * 3 + 2) + 1 + 1 + 1 by omega]
      rfl
def chg (f : Int → Int) (l : List IV) (x : Nat) : List IV := match l[x]? with | some i => l.set x (i.1, i.2.1, f i.2.2) | none => l
def maxat (l : List IV) (x : Nat) (t : Int) : List IV := chg (fun y => max y t) l x
def setat (l : List IV) (x : Nat) (t : Int) : List IV := chg (fun _ => t) l x
theorem chg_len (f : Int → Int) (l : List IV) (x : Nat) : (chg f l x).length = l.length := by unfold chg; split <;> simp
theorem maxat_len (l : List IV) (x : Nat) (t : Int) : (maxat l x t).length = l.length := chg_len _ _ _
theorem setat_len (l : List IV) (x : Nat) (t : Int) : (setat l x t).length = l.length := chg_len _ _ _
theorem maxat_eq {l : List IV} {x : Nat} {i : IV} (t : Int) (h : l[x]? = some i) : l.set x (i.1, i.2.1, max i.2.2 t) = maxat l x t := by unfold maxat chg; rw [h]
theorem setat_eq {l : List IV} {x : Nat} {i : IV} (t : Int) (h : l[x]? = some i) : l.set x (i.1, i.2.1, t) = setat l x t := by unfold setat chg; rw [h]
def seedl (n : Nat) : List IV := (List.range n).map fun k : Nat => ((k : Int), (k : Int), (k : Int))
theorem seedl_len (n : Nat) : (seedl n).length = n := by simp [seedl]
theorem seedl_succ (n : Nat) : seedl (n + 1) = seedl n ++ [((n : Int), (n : Int), (n : Int))] := by simp [seedl, List.range_succ]
def useL (f : List IV → Nat → Int → List IV) (l : List IV) (i : II) (k : Nat) : List IV := if i.1 = 3 ∨ i.1 = 4 then f (f l i.2.2.1.toNat k) i.2.2.2.1.toNat k else l
def codeL (f : List IV → Nat → Int → List IV) (c : List II) : Nat → List IV
  | 0 => seedl c.length
  | k + 1 => match c[k]? with | some i => useL f (codeL f c k) i k | none => codeL f c k
theorem codeL_succ (f : List IV → Nat → Int → List IV) (c : List II) (k : Nat) (i : II) (h : c[k]? = some i) : codeL f c (k + 1) = useL f (codeL f c k) i k := by rw [codeL, h]
theorem codeL_len {f : List IV → Nat → Int → List IV} (hf : ∀ l x t, (f l x t).length = l.length) (c : List II) : ∀ k, (codeL f c k).length = c.length
  | 0 => seedl_len _
  | k + 1 => by
    rw [codeL]
    split
    · unfold useL; split
      · rw [hf, hf, codeL_len hf c k]
      · exact codeL_len hf c k
    · exact codeL_len hf c k
def outL (f : List IV → Nat → Int → List IV) (n : Nat) (l : List IV) (o : List Int) : List IV := o.foldl (fun l x => f l x.toNat n) l
theorem outL_succ (f : List IV → Nat → Int → List IV) (n : Nat) (l : List IV) (o : List Int) (j : Nat) (x : Int) (h : o[j]? = some x) : outL f n l (o.take (j + 1)) = f (outL f n l (o.take j)) x.toNat n := by
  unfold outL; rw [List.take_add_one, h]; simp
theorem outL_len {f : List IV → Nat → Int → List IV} (hf : ∀ l x t, (f l x t).length = l.length) (n : Nat) : ∀ (o : List Int) (l : List IV), (outL f n l o).length = l.length
  | [], l => rfl
  | x :: o, l => by show (outL f n (f l x.toNat n) o).length = _; rw [outL_len hf n o, hf]
def ofL (f : List IV → Nat → Int → List IV) (c : List II) (o : List Int) (fl : Int) : List IV :=
  if 0 ≤ fl then f (outL f c.length (codeL f c c.length) o) fl.toNat c.length else outL f c.length (codeL f c c.length) o
theorem ofL_len {f : List IV → Nat → Int → List IV} (hf : ∀ l x t, (f l x t).length = l.length) (c : List II) (o : List Int) (fl : Int) : (ofL f c o fl).length = c.length := by
  unfold ofL; split <;> simp only [hf, outL_len hf, codeL_len hf]
/-- Both ways of telling how long a value lives agree. -/
def Bnd (l : List IV) (m : Int) : Prop := ∀ (j : Nat) (i : IV), l[j]? = some i → i.2.2 ≤ max (j : Int) m
theorem max_set {l : List IV} {x : Nat} {m t : Int} (h : Bnd l m) (h1 : (x : Int) ≤ t) (h2 : m ≤ t) : maxat l x t = setat l x t := by
  unfold maxat setat chg
  cases hx : l[x]? with
  | none => rfl
  | some i =>
    have := h x i hx
    show l.set x (i.1, i.2.1, max i.2.2 t) = l.set x (i.1, i.2.1, t)
    rw [show max i.2.2 t = t by omega]
theorem bnd_set {l : List IV} {x : Nat} {m t : Int} (h : Bnd l m) (h2 : m ≤ t) : Bnd (setat l x t) t := by
  intro j i hj
  unfold setat chg at hj
  cases hx : l[x]? with
  | none => rw [hx] at hj; have := h j i hj; omega
  | some i0 =>
    rw [hx] at hj
    by_cases e : x = j
    · subst e
      simp only at hj
      rw [List.getElem?_set_self (List.getElem?_eq_some_iff.1 hx).1] at hj
      have := Option.some.inj hj
      rw [← this]; show t ≤ _; omega
    · rw [List.getElem?_set_ne e] at hj; have := h j i hj; omega
theorem bnd_mono {l : List IV} {m t : Int} (h : Bnd l m) (h2 : m ≤ t) : Bnd l t := fun j i hj => by have := h j i hj; omega
theorem bnd_seed (n : Nat) : Bnd (seedl n) 0 := fun j i hj => by
  unfold seedl at hj
  rw [List.getElem?_map] at hj
  cases hr : (List.range n)[j]? with
  | none => rw [hr] at hj; cases hj
  | some q =>
    rw [hr] at hj
    have := Option.some.inj hj
    have hq := (List.getElem?_eq_some_iff.1 hr).2
    simp at hq
    rw [← this]; show (q : Int) ≤ _; omega
theorem codeL_eq {c : List II} {o : List Int} {fl : Int} (hok : PgOk c o fl) : ∀ k, codeL maxat c k = codeL setat c k ∧ Bnd (codeL setat c k) k
  | 0 => ⟨rfl, bnd_seed _⟩
  | k + 1 => by
    have ih := codeL_eq hok k
    rw [codeL, codeL]
    cases hc : c[k]? with
    | none => exact ⟨ih.1, bnd_mono ih.2 (by omega)⟩
    | some i =>
      show useL maxat _ i k = useL setat _ i k ∧ Bnd (useL setat _ i k) _
      rcases hok.code k i hc with h | ⟨t, a, b, ht, ha1, ha2, hb1, hb2, h⟩
      · subst h; exact ⟨ih.1, bnd_mono ih.2 (by omega)⟩
      · subst h
        unfold useL
        rw [if_pos ht, if_pos ht, ih.1]
        show maxat (maxat _ a.toNat k) b.toNat k = setat (setat _ a.toNat k) b.toNat k ∧ _
        rw [max_set ih.2 (by omega) (by omega), max_set (bnd_set ih.2 (by omega)) (by omega) (by omega)]
        exact ⟨rfl, bnd_mono (bnd_set (bnd_set ih.2 (by omega)) (by omega)) (by omega)⟩
theorem outL_eq {n : Nat} : ∀ (o : List Int) (l : List IV), (∀ x ∈ o, 0 ≤ x ∧ x < (n : Int)) → Bnd l n → outL maxat n l o = outL setat n l o ∧ Bnd (outL setat n l o) n
  | [], l, _, h => ⟨rfl, h⟩
  | x :: o, l, hx, h => by
    have h0 := hx x (List.mem_cons_self ..)
    show outL maxat n (maxat l x.toNat n) o = outL setat n (setat l x.toNat n) o ∧ Bnd (outL setat n (setat l x.toNat n) o) n
    rw [max_set h (by omega) (by omega)]
    exact outL_eq o _ (fun y hy => hx y (List.mem_cons_of_mem _ hy)) (bnd_set h (by omega))
theorem ofL_eq {c : List II} {o : List Int} {fl : Int} (hok : PgOk c o fl) : ofL maxat c o fl = ofL setat c o fl := by
  have h1 := codeL_eq hok c.length
  have h2 := outL_eq (n := c.length) o (codeL setat c c.length) (fun x hx => by
    obtain ⟨j, hj⟩ := List.getElem?_of_mem hx
    exact hok.outs j x hj) h1.2
  unfold ofL
  rw [h1.1, h2.1]
  split
  · have := hok.fl_
    rw [max_set h2.2 (by omega) (by omega)]
  · rfl
theorem Gr.keep1 {H H' : Heap} {lo X : Nat} {e e2 : TypeId} {s n : Nat} {v : Value} {xs cx : List Value} (g : Gr H lo e s v n xs) (gX : H.get X = some ⟨cx, e2, false⟩) (he : e ≠ e2) (hn : H.n ≤ H'.n) (fr : ∀ b, lo ≤ b → b < H.n → b ≠ X → H'.get b = H.get b) : Gr H' lo e s v n xs :=
  Gr.keepX g gX gX he hn fun b h1 h2 h3 _ => fr b h1 h2 h3
theorem Gr.iv {H : Heap} {lo B n : Nat} {e : TypeId} {l : List IV} (g : H.get B = some ⟨ivs l, e, false⟩) (hl : l.length = n) (h1 : B < H.n) (h2 : lo ≤ B) : Gr H lo e 3 (.slice (some ⟨B, 0, none⟩) n (unk + 3)) n (ivs l) := ⟨by rw [ivs_len, hl], .inr ⟨B, rfl, g, h1, h2⟩⟩
end Lm
end Go.Proofs.Ytahikechkggbfaa
