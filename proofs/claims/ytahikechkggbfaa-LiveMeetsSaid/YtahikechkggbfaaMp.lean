/- LiveMeets: the plain law: how many press. -/
import Derived.Test.YtahikechkggbfaaMa
import Derived.Test.YtahikechkggbfaaC
namespace Go.Proofs.Ytahikechkggbfaa
open Go
set_option linter.unusedVariables false
set_option linter.unusedSimpArgs false
namespace Me
theorem most_le (l : List IV) (M : Int) (hM : 0 ≤ M) : ∀ (m : List IV), (∀ i ∈ m, cnt l i.f ≤ M) → most l m ≤ M := by
  intro m
  suffices h : ∀ (m : List IV) (a : Int), a ≤ M → (∀ i ∈ m, cnt l i.f ≤ M) → m.foldl (fun a i => max a (cnt l i.f)) a ≤ M from fun hm => h m 0 hM hm
  intro m
  induction m with
  | nil => intro a ha _; exact ha
  | cons b m ih =>
    intro a ha hm
    rw [List.foldl_cons]
    refine ih _ ?_ fun i hi => hm i (by simp [hi])
    have := hm b (by simp)
    omega
theorem one_of (p : IV → Bool) : ∀ (S : List IV), (∀ a b (ha : a < S.length) (hb : b < S.length), p S[a] = true → p S[b] = true → a = b) → (S.filter p).length ≤ 1 := by
  intro S
  induction S with
  | nil => intro _; simp
  | cons x S ih =>
    intro h
    have h' : ∀ a b (ha : a < S.length) (hb : b < S.length), p S[a] = true → p S[b] = true → a = b := fun a b ha hb h1 h2 => by
      have := h (a + 1) (b + 1) (by simp [ha]) (by simp [hb]) (by simpa using h1) (by simpa using h2)
      omega
    rw [List.filter_cons]
    cases hx : p x
    · simpa using ih h'
    · have : S.filter p = [] := by
        rw [List.filter_eq_nil_iff]
        intro y hy hpy
        obtain ⟨b, hb, rfl⟩ := List.getElem_of_mem hy
        have := h 0 (b + 1) (by simp) (by simp [hb]) (by simpa using hx) (by simpa using hpy)
        omega
      simp [this]
theorem mem_pos (p : IV → Bool) (S : List IV) (b : Nat) (hb : b < S.length) (h : p S[b] = true) : 1 ≤ (S.filter p).length := by
  have : S[b] ∈ S.filter p := List.mem_filter.2 ⟨List.getElem_mem hb, h⟩
  exact List.length_pos_of_mem this
theorem two_of (p : IV → Bool) : ∀ (S : List IV) (a b : Nat) (ha : a < S.length) (hb : b < S.length), a < b → p S[a] = true → p S[b] = true → 2 ≤ (S.filter p).length := by
  intro S
  induction S with
  | nil => intro a b ha; simp at ha
  | cons x S ih =>
    intro a b ha hb hab h1 h2
    rw [List.filter_cons]
    obtain ⟨b, rfl⟩ : ∃ c, b = c + 1 := ⟨b - 1, by omega⟩
    have hb' : b < S.length := by simpa using hb
    cases a with
    | zero =>
      have hx : p x = true := by simpa using h1
      have := mem_pos p S b hb' (by simpa using h2)
      simp only [hx, if_true, List.length_cons]
      omega
    | succ a =>
      have := ih a b (by simpa using ha) hb' (by omega) (by simpa using h1) (by simpa using h2)
      cases hx : p x
      · simpa using this
      · simp only [if_true, List.length_cons]; omega
theorem meet_iff (a b c d : Int) (h1 : a < b) (h2 : c < d) : meetB a b c d = true ↔ a < d ∧ c < b := by
  unfold meetB; simp; omega
theorem at_iff (f t x : Int) (h : f < t) : atB f t x = true ↔ f ≤ x ∧ x < t := by rw [atB_iff]; omega
theorem press_apart (S : List IV) (h : ∀ i ∈ S, i.f < i.t) (hA : Apart S S.length 0) : most S S ≤ 1 := by
  refine most_le S 1 (by omega) S fun i hi => ?_
  unfold cnt
  have := one_of (fun j => atB j.f j.t i.f) S fun a b ha hb h1 h2 => by
    have ta := h _ (List.getElem_mem ha)
    have tb := h _ (List.getElem_mem hb)
    rw [at_iff _ _ _ ta] at h1
    rw [at_iff _ _ _ tb] at h2
    rcases hA a b ha hb (.inl ha) with e | e
    · exact e
    · exfalso
      have := (meet_iff _ _ _ _ ta tb).2 ⟨by omega, by omega⟩
      rw [this] at e; cases e
  omega
theorem press_meet (S : List IV) (h : ∀ i ∈ S, i.f < i.t) (hA : ¬ Apart S S.length 0) : 2 ≤ most S S := by
  have : ∃ a b, ∃ (ha : a < S.length) (hb : b < S.length), a ≠ b ∧ meetB S[a].f S[a].t S[b].f S[b].t = true := by
    false_or_by_contra
    rename_i hn
    refine hA fun a b ha hb _ => ?_
    by_cases e : a = b
    · exact .inl e
    · right
      cases hm : meetB S[a].f S[a].t S[b].f S[b].t
      · rfl
      · exact absurd ⟨a, b, ha, hb, e, hm⟩ hn
  obtain ⟨a, b, ha, hb, hab, hm⟩ := this
  have ta := h _ (List.getElem_mem ha)
  have tb := h _ (List.getElem_mem hb)
  rw [meet_iff _ _ _ _ ta tb] at hm
  have key : ∀ x, (S[a].f ≤ x ∧ x < S[a].t) → (S[b].f ≤ x ∧ x < S[b].t) → 2 ≤ cnt S x := by
    intro x h1 h2
    have p1 := (at_iff _ _ x ta).2 h1
    have p2 := (at_iff _ _ x tb).2 h2
    unfold cnt
    rcases Nat.lt_or_gt_of_ne hab with h3 | h3
    · have := two_of (fun j => atB j.f j.t x) S a b ha hb h3 p1 p2; omega
    · have := two_of (fun j => atB j.f j.t x) S b a hb ha h3 p2 p1; omega
  by_cases hf : S[a].f ≤ S[b].f
  · exact Int.le_trans (key S[b].f (by omega) (by omega)) (most_ge S S _ (List.getElem_mem hb))
  · exact Int.le_trans (key S[a].f (by omega) (by omega)) (most_ge S S _ (List.getElem_mem ha))
theorem press_take (S : List IV) (h : Nat) : most (S.take h) (S.take h) ≤ most S S := by
  refine most_le _ _ (most_nonneg S S) _ fun i hi => ?_
  have h1 : cnt (S.take h) i.f ≤ cnt S i.f := by
    unfold cnt
    have := ((List.take_sublist h S).filter (fun j => atB j.f j.t i.f)).length_le
    omega
  exact Int.le_trans h1 (most_ge S S i (List.mem_of_mem_take hi))
theorem press_len (S : List IV) : most S S ≤ S.length := most_le _ _ (by omega) _ fun i _ => (cnt_le S i.f).2
end Me
end Go.Proofs.Ytahikechkggbfaa
