/- Chapter 22: what is laid in a machine: the plain law. -/
import Derived.Test.YtihacfclecanjaaNa
set_option linter.unusedVariables false
set_option linter.unusedSimpArgs false
namespace Go.Proofs.Ytihacfclecanjaa
open Go Go.Ev Go.RowKit
set_option maxRecDepth 100000
namespace Ls
theorem getD_set (M : List Int) (i j : Nat) (v : Int) : (M.set i v).getD j 0 = if i = j ∧ j < M.length then v else M.getD j 0 := by
 rw [List.getD_eq_getElem?_getD, List.getElem?_set]
 by_cases h : i = j
 ·subst h
  by_cases h2 : i < M.length
  ·rw [if_pos rfl, if_pos h2, if_pos ⟨rfl, h2⟩]; rfl
  ·rw [if_pos rfl, if_neg h2, if_neg (fun q => h2 q.2), List.getD_eq_getElem?_getD, List.getElem?_eq_none (by omega)]
 ·rw [if_neg h, if_neg (fun q => h q.1), List.getD_eq_getElem?_getD]
theorem layL_get (M : List Int) (f : Nat) (l : List Int) (j : Nat) : ∀ k, f + k ≤ M.length → (layL M f l k).getD j 0 = if f ≤ j ∧ j < f + k then l.getD (j - f) 0 else M.getD j 0
 | 0, _ => by rw [if_neg (by omega)]; rfl
 | k + 1, hk => by
  show ((layL M f l k).set (f + k) (l.getD k 0)).getD j 0 = _;rw [getD_set, layL_len, layL_get M f l j k (by omega)]
  by_cases h : f + k = j
  ·rw [if_pos ⟨h, by omega⟩, if_pos (by omega), show j - f = k by omega]
  ·rw [if_neg (fun q => h q.1)]
   by_cases h2 : f ≤ j ∧ j < f + k
   ·rw [if_pos h2, if_pos (by omega)]
   ·rw [if_neg h2, if_neg (by omega)]
@[simp] theorem putM_len (M d r : List Int) (pc fl : Int) : (putM M d r pc fl).length = M.length := by simp [putM]
theorem putM_get {M : List Int} (h : M.length = 256) (d r : List Int) (pc fl : Int) (j : Nat) : (putM M d r pc fl).getD j 0 =
    if j = 36 then 0 else if 20 ≤ j ∧ j < 36 then r.getD (j - 20) 0 else if 4 ≤ j ∧ j < 20 then d.getD (j - 4) 0 else if j = 3 then (r.length : Int) else if j = 2 then (d.length : Int) else if j = 1 then fl else if j = 0 then pc else M.getD j 0 := by
 unfold putM;rw [getD_set, layL_get _ _ _ _ _ (by simp [h]), layL_get _ _ _ _ _ (by simp [h]), getD_set, getD_set, getD_set, getD_set];simp only [layL_len, List.length_set, h]
 repeat' split
 all_goals first | rfl | omega | (exfalso; omega)
def W32 (M : List Int) : Prop := ∀ i, 0 ≤ M.getD i 0 ∧ M.getD i 0 < 4294967296
theorem W32.of {l : List Int} (h : ∀ x ∈ l, 0 ≤ x ∧ x < 4294967296) : W32 l := fun i => by
 rw [List.getD_eq_getElem?_getD];cases q : l[i]? with
 | none => exact ⟨Int.le_refl _, by decide⟩
 | some x => exact h x (List.mem_of_getElem? q)
theorem W32.set {M : List Int} (h : W32 M) (i : Nat) {v : Int} (hv : 0 ≤ v ∧ v < 4294967296) : W32 (M.set i v) := fun j => by
 rw [getD_set]; split
 ·exact hv
 ·exact h j
theorem W32.rep (n : Nat) : W32 (List.replicate n 0) := fun i => by
 rw [List.getD_eq_getElem?_getD, List.getElem?_replicate]; split <;> exact ⟨Int.le_refl _, by decide⟩
theorem W32.put {M : List Int} (h : W32 M) (hl : M.length = 256) {d r : List Int} (hd : ∀ x ∈ d, 0 ≤ x ∧ x < 4294967296) (hr : ∀ x ∈ r, 0 ≤ x ∧ x < 4294967296) (h1 : d.length ≤ 16) (h2 : r.length ≤ 16) {pc fl : Int} (hp : 0 ≤ pc ∧ pc < 4294967296) (hf : 0 ≤ fl ∧ fl < 4294967296) : W32 (putM M d r pc fl) := fun j => by
 rw [putM_get hl];split
 ·exact ⟨Int.le_refl _, by decide⟩
 ·split
  ·exact W32.of hr _
  ·split
   ·exact W32.of hd _
   ·split
    ·omega
    ·split
     ·omega
     ·split
      ·exact hf
      ·split
       ·exact hp
       ·exact h j
theorem takeM_of {M l : List Int} {f : Nat} (h : ∀ i, i < l.length → M.getD (f + i) 0 = l.getD i 0) : takeM M f l.length = l := by
 unfold takeM;refine List.ext_getElem? fun i => ?_
 rw [List.getElem?_map]
 by_cases hi : i < l.length
 ·rw [List.getElem?_range hi, List.getElem?_eq_getElem hi];show some (M.getD (f + i) 0) = _;rw [h i hi, List.getD_eq_getElem?_getD, List.getElem?_eq_getElem hi]; rfl
 ·rw [List.getElem?_eq_none (by simp; omega), List.getElem?_eq_none (by omega)]; rfl
end Ls
end Go.Proofs.Ytihacfclecanjaa
