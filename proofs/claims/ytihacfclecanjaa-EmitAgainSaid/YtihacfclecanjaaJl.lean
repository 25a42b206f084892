/- Chapter 22: plans: the plain law. -/
import Derived.Test.YtihacfclecanjaaJh
import Derived.Test.YtihacfclecanjaaJg
set_option linter.unusedVariables false
set_option linter.unusedSimpArgs false
namespace Go.Proofs.Ytihacfclecanjaa
open Go Go.Ev Go.RowKit
set_option maxRecDepth 100000
namespace Ls
def meetB (a b : IV) : Bool := (decide (a.2.1 < b.2.2) && decide (b.2.1 < a.2.2)) || decide (a.2.1 = b.2.1)
structure Ivs (l : List IV) : Prop where
 at_ : ∀ (i : Nat) (x : IV), l[i]? = some x → x.2.1 = i ∧ (i : Int) ≤ x.2.2 ∧ x.2.2 ≤ (l.length : Int)
def meetN (l : List IV) (i n : Nat) : Bool := match l[i]?, l[n]? with | some a, some b => meetB a b | _, _ => false
def takenB (l : List IV) (pl : List Int) (n : Nat) (k : Int) (j : Nat) : Bool := (List.range j).any fun i => (pl[i]? == some k) && meetN l i n
theorem takenB_succ (l : List IV) (pl : List Int) (n : Nat) (k : Int) (j : Nat) : takenB l pl n k (j + 1) = (takenB l pl n k j || ((pl[j]? == some k) && meetN l j n)) := by
 unfold takenB; rw [List.range_succ, List.any_append]; simp
theorem takenB_iff {l : List IV} {pl : List Int} {n : Nat} {k : Int} {j : Nat} : takenB l pl n k j = true ↔ ∃ i, i < j ∧ pl[i]? = some k ∧ meetN l i n = true := by
 unfold takenB;rw [List.any_eq_true];constructor
 ·rintro ⟨i, h1, h2⟩; simp at h1 h2; exact ⟨i, h1, h2.1, h2.2⟩
 ·rintro ⟨i, h1, h2, h3⟩; exact ⟨i, by simpa using h1, by simp [h2, h3]⟩
theorem all_in : ∀ (K : Nat) (l : List Int), (∀ k, k < K → (k : Int) ∈ l) → K ≤ l.length
 | 0, l, _ => Nat.zero_le _
 | K + 1, l, h => by
  have h1 := h K (by omega);have h2 := all_in K (l.erase (K : Int)) fun k hk => (List.mem_erase_of_ne (by omega)).2 (h k (by omega))
  rw [List.length_erase_of_mem h1] at h2;have := List.length_pos_of_mem h1;omega
theorem taken_le {l : List IV} {pl : List Int} {n K : Nat} (h : ∀ k, k < K → takenB l pl n (k : Int) pl.length = true) : K ≤ pl.length :=
 all_in K pl fun k hk => by
  obtain ⟨i, _, h2, _⟩ := takenB_iff.1 (h k hk);exact List.mem_of_getElem? h2
structure FreeP (l : List IV) (pl : List Int) (n k : Nat) : Prop where
 no : takenB l pl n (k : Int) pl.length = false
 all : ∀ j, j < k → takenB l pl n (j : Int) pl.length = true
theorem FreeP.le {l : List IV} {pl : List Int} {n k : Nat} (h : FreeP l pl n k) : k ≤ pl.length := taken_le h.all
theorem FreeP.apart {l : List IV} {pl : List Int} {n k : Nat} (h : FreeP l pl n k) {i : Nat} (hi : pl[i]? = some (k : Int)) : meetN l i n = false := by
 have hl := (List.getElem?_eq_some_iff.1 hi).1;cases hm : meetN l i n with
 | false => rfl
 | true => have := takenB_iff.2 ⟨i, hl, hi, hm⟩; rw [h.no] at this; cases this
theorem meet_comm (a b : IV) : meetB a b = meetB b a := by unfold meetB; rw [Bool.eq_iff_iff]; simp; omega
theorem meetN_comm (l : List IV) (i n : Nat) : meetN l i n = meetN l n i := by
 unfold meetN;cases l[i]? <;> cases l[n]? <;> simp only
 exact meet_comm _ _
theorem meet_both {l : List IV} (hl : Ivs l) {i k n : Nat} (hi : i < n) (hk : k < n) (h1 : meetN l i n = true) (h2 : meetN l k n = true) : meetN l i k = true := by
 unfold meetN at *;cases e1 : l[i]? with
 | none => simp [e1] at h1
 | some a => cases e2 : l[k]? with
  | none => simp [e2] at h2
  | some b => cases e3 : l[n]? with
   | none => simp [e1, e3] at h1
   | some c =>
    obtain ⟨a1, a2, _⟩ := hl.at_ i a e1; obtain ⟨b1, b2, _⟩ := hl.at_ k b e2; obtain ⟨c1, c2, _⟩ := hl.at_ n c e3;simp only [e1, e2, e3, meetB, Bool.or_eq_true, Bool.and_eq_true, decide_eq_true_eq] at h1 h2 ⊢;omega
structure PlanN (l : List IV) (regs : Nat) (n : Nat) (rg sl : List Int) (slots : Int) : Prop where
 lr : rg.length = l.length
 ls : sl.length = l.length
 s0 : 0 ≤ slots ∧ slots ≤ n
 late : ∀ i, n ≤ i → i < l.length → rg[i]? = some (-1) ∧ sl[i]? = some (-1)
 place : ∀ i r s, i < n → rg[i]? = some r → sl[i]? = some s → (0 ≤ r ∧ r < (regs : Int) ∧ s = -1) ∨ (r = -1 ∧ 0 ≤ s ∧ s < slots)
 apR : ∀ i k r, i < k → k < n → rg[i]? = some r → rg[k]? = some r → r ≠ -1 → meetN l i k = false
 apS : ∀ i k s, i < k → k < n → sl[i]? = some s → sl[k]? = some s → s ≠ -1 → meetN l i k = false
theorem rep_at (n i : Nat) (x : Int) (h : i < n) : (List.replicate n x)[i]? = some x := by rw [List.getElem?_replicate, if_pos h]
theorem plan0 (l : List IV) (regs : Nat) : PlanN l regs 0 (List.replicate l.length (-1)) (List.replicate l.length (-1)) 0 where
 lr := by simp
 ls := by simp
 s0 := ⟨Int.le_refl _, Int.le_refl _⟩
 late := fun i _ hi => ⟨rep_at _ _ _ hi, rep_at _ _ _ hi⟩
 place := fun i r s h => by omega
 apR := fun i k r _ h => by omega
 apS := fun i k r _ h => by omega
section
variable {l : List IV} {regs n : Nat} {rg sl : List Int} {slots : Int}
theorem PlanN.reg (h : PlanN l regs n rg sl slots) (hn : n < l.length) {r : Nat} (hf : FreeP l rg n r) (hr : r < regs) : PlanN l regs (n + 1) (rg.set n (r : Int)) sl slots where
 lr := by simp [h.lr]
 ls := h.ls
 s0 := ⟨h.s0.1, by have := h.s0.2; omega⟩
 late := fun i hi hl => by
  obtain ⟨a, b⟩ := h.late i (by omega) hl;exact ⟨by rw [List.getElem?_set_ne (by omega)]; exact a, b⟩
 place := fun i r' s hi h1 h2 => by
  by_cases hin : i = n
  ·subst hin;rw [List.getElem?_set_self (by rw [h.lr]; exact hn)] at h1;cases h1;have := (h.late i (Nat.le_refl _) hn).2;rw [this] at h2; cases h2;exact .inl ⟨by omega, by omega, rfl⟩
  ·rw [List.getElem?_set_ne (by omega)] at h1;exact h.place i r' s (by omega) h1 h2
 apR := fun i k r' hik hk h1 h2 hne => by
  by_cases hkn : k = n
  ·subst hkn;rw [List.getElem?_set_self (by rw [h.lr]; exact hn)] at h2;cases h2;rw [List.getElem?_set_ne (by omega)] at h1;exact hf.apart h1
  ·rw [List.getElem?_set_ne (by omega)] at h1 h2;exact h.apR i k r' hik (by omega) h1 h2 hne
 apS := fun i k s hik hk h1 h2 hne => by
  by_cases hkn : k = n
  ·subst hkn;have := (h.late k (Nat.le_refl _) hn).2;rw [this] at h2; cases h2; exact absurd rfl hne
  ·exact h.apS i k s hik (by omega) h1 h2 hne
theorem PlanN.spill (h : PlanN l regs n rg sl slots) (hn : n < l.length) {s : Nat} (hf : FreeP l sl n s) : PlanN l regs (n + 1) (rg.set n (-1)) (sl.set n (s : Int)) (max slots ((s : Int) + 1)) where
 lr := by simp [h.lr]
 ls := by simp [h.ls]
 s0 := ⟨by have := h.s0.1; omega, by
  have h1 := h.s0.2
  have : s ≤ n := by
   -- all that is taken is below n
   refine Nat.le_trans (all_in s (sl.take n) fun k hk => ?_) (by simp; omega);obtain ⟨i, _, h2, _⟩ := takenB_iff.1 (hf.all k hk)
   by_cases hi : i < n
   ·exact List.mem_of_getElem? (i := i) (by rw [List.getElem?_take, if_pos hi]; exact h2)
   ·have hil := (List.getElem?_eq_some_iff.1 h2).1;rw [h.ls] at hil;have := (h.late i (by omega) hil).2;rw [h2] at this; cases this
  omega⟩
 late := fun i hi hl => by
  obtain ⟨a, b⟩ := h.late i (by omega) hl;exact ⟨by rw [List.getElem?_set_ne (by omega)]; exact a, by rw [List.getElem?_set_ne (by omega)]; exact b⟩
 place := fun i r' s' hi h1 h2 => by
  by_cases hin : i = n
  ·subst hin;rw [List.getElem?_set_self (by rw [h.lr]; exact hn)] at h1;rw [List.getElem?_set_self (by rw [h.ls]; exact hn)] at h2;cases h1; cases h2;exact .inr ⟨rfl, by omega, by omega⟩
  ·rw [List.getElem?_set_ne (by omega)] at h1 h2;rcases h.place i r' s' (by omega) h1 h2 with q | ⟨q1, q2, q3⟩
   ·exact .inl q
   ·exact .inr ⟨q1, q2, by omega⟩
 apR := fun i k r' hik hk h1 h2 hne => by
  by_cases hkn : k = n
  ·subst hkn;rw [List.getElem?_set_self (by rw [h.lr]; exact hn)] at h2;cases h2; exact absurd rfl hne
  ·rw [List.getElem?_set_ne (by omega)] at h1 h2;exact h.apR i k r' hik (by omega) h1 h2 hne
 apS := fun i k s' hik hk h1 h2 hne => by
  by_cases hkn : k = n
  ·subst hkn;rw [List.getElem?_set_self (by rw [h.ls]; exact hn)] at h2;cases h2;rw [List.getElem?_set_ne (by omega)] at h1;exact hf.apart h1
  ·rw [List.getElem?_set_ne (by omega)] at h1 h2;exact h.apS i k s' hik (by omega) h1 h2 hne
theorem PlanN.swap (h : PlanN l regs n rg sl slots) (hl : Ivs l) (hn : n < l.length) {k s : Nat} {r : Int} (hk : k < n) (hr : rg[k]? = some r) (hr1 : r ≠ -1) (hm : meetN l k n = true) (hf : FreeP l sl k s) :
    PlanN l regs (n + 1) ((rg.set n r).set k (-1)) (sl.set k (s : Int)) (max slots ((s : Int) + 1)) where
 lr := by simp [h.lr]
 ls := by simp [h.ls]
 s0 := ⟨by have := h.s0.1; omega, by
  have h1 := h.s0.2
  have : s ≤ n := by
   refine Nat.le_trans (all_in s (sl.take n) fun k' hk' => ?_) (by simp; omega);obtain ⟨i, _, h2, _⟩ := takenB_iff.1 (hf.all k' hk')
   by_cases hi : i < n
   ·exact List.mem_of_getElem? (i := i) (by rw [List.getElem?_take, if_pos hi]; exact h2)
   ·have hil := (List.getElem?_eq_some_iff.1 h2).1;rw [h.ls] at hil;have := (h.late i (by omega) hil).2;rw [h2] at this; cases this
  omega⟩
 late := fun i hi hl' => by
  obtain ⟨a, b⟩ := h.late i (by omega) hl';exact ⟨by rw [List.getElem?_set_ne (by omega), List.getElem?_set_ne (by omega)]; exact a, by rw [List.getElem?_set_ne (by omega)]; exact b⟩
 place := fun i r' s' hi h1 h2 => by
  have hks : ∃ s0, sl[k]? = some s0 := ⟨_, List.getElem?_eq_getElem (by rw [h.ls]; omega)⟩;obtain ⟨s0, hs0⟩ := hks;have hpk := h.place k r s0 hk hr hs0
  by_cases hik : i = k
  ·subst hik;rw [List.getElem?_set_self (by simp [h.lr]; omega)] at h1;rw [List.getElem?_set_self (by rw [h.ls]; omega)] at h2;cases h1; cases h2;exact .inr ⟨rfl, by omega, by omega⟩
  ·rw [List.getElem?_set_ne (by omega)] at h1 h2
   by_cases hin : i = n
   ·subst hin;rw [List.getElem?_set_self (by rw [h.lr]; exact hn)] at h1;cases h1;have := (h.late i (Nat.le_refl _) hn).2;rw [this] at h2; cases h2;rcases hpk with ⟨q1, q2, _⟩ | ⟨q1, _⟩
    ·exact .inl ⟨q1, q2, rfl⟩
    ·exact absurd q1 hr1
   ·rw [List.getElem?_set_ne (by omega)] at h1;rcases h.place i r' s' (by omega) h1 h2 with q | ⟨q1, q2, q3⟩
    ·exact .inl q
    ·exact .inr ⟨q1, q2, by omega⟩
 apR := fun i j r' hij hj h1 h2 hne => by
  by_cases hik : i = k
  ·subst hik;rw [List.getElem?_set_self (by simp [h.lr]; omega)] at h1;cases h1; exact absurd rfl hne
  by_cases hjk : j = k
  ·subst hjk;rw [List.getElem?_set_self (by simp [h.lr]; omega)] at h2;cases h2; exact absurd rfl hne
  rw [List.getElem?_set_ne (by omega)] at h1 h2
  by_cases hjn : j = n
  ·subst hjn;rw [List.getElem?_set_self (by rw [h.lr]; exact hn)] at h2;cases h2;rw [List.getElem?_set_ne (by omega)] at h1;cases hmi : meetN l i j with
   | false => rfl
   | true =>
    have hb := meet_both hl (i := i) (k := k) hij hk hmi hm;rcases Nat.lt_or_gt_of_ne hik with q | q
    ·rw [h.apR i k r q hk h1 hr hr1] at hb; cases hb
    ·rw [meetN_comm, h.apR k i r q (by omega) hr h1 hr1] at hb; cases hb
  ·rw [List.getElem?_set_ne (by omega)] at h1 h2;exact h.apR i j r' hij (by omega) h1 h2 hne
 apS := fun i j s' hij hj h1 h2 hne => by
  by_cases hjn : j = n
  ·subst hjn;rw [List.getElem?_set_ne (by omega)] at h2;have := (h.late j (Nat.le_refl _) hn).2;rw [this] at h2; cases h2; exact absurd rfl hne
  by_cases hik : i = k
  ·subst hik;rw [List.getElem?_set_self (by rw [h.ls]; omega)] at h1;cases h1;rw [List.getElem?_set_ne (by omega)] at h2;rw [meetN_comm]; exact hf.apart h2
  by_cases hjk : j = k
  ·subst hjk;rw [List.getElem?_set_self (by rw [h.ls]; omega)] at h2;cases h2;rw [List.getElem?_set_ne (by omega)] at h1;exact hf.apart h1
  rw [List.getElem?_set_ne (by omega)] at h1 h2;exact h.apS i j s' hij (by omega) h1 h2 hne
end
def liveAt (x : IV) (p : Int) : Bool := (decide (x.2.1 ≤ p) && decide (x.2.2 > p)) || (decide (x.2.1 = p) && decide (x.2.2 = p))
def cntAt (l : List IV) (p : Int) : Nat := (l.filter fun x => liveAt x p).length
theorem press_free {l : List IV} {regs n : Nat} {rg sl : List Int} {slots : Int} (hl : Ivs l) (h : PlanN l regs n rg sl slots) (hn : n < l.length) {r : Nat} (hf : FreeP l rg n r) (hp : cntAt l (n : Int) ≤ regs) : r < regs := by
 rcases Nat.lt_or_ge r regs with q | q
 ·exact q
 exfalso
 -- those that hold a register and meet n
 have hx : l[n]? = some l[n] := List.getElem?_eq_getElem hn;obtain ⟨e1, e2, _⟩ := hl.at_ n _ hx
 have h1 : regs ≤ (((l.take n).filter fun x => liveAt x (n : Int)).map fun x => (rg[x.2.1.toNat]?).getD 0).length := all_in regs _ fun k hk => by
  obtain ⟨i, hi, h2, h3⟩ := takenB_iff.1 (hf.all k (by omega))
  have hin : i < n := by
   rcases Nat.lt_or_ge i n with q | q
   ·exact q
   ·rw [h.lr] at hi;have := (h.late i q hi).1;rw [h2] at this; cases this
  have hil : i < l.length := by omega
  have hxi : l[i]? = some l[i] := List.getElem?_eq_getElem hil;obtain ⟨a1, a2, _⟩ := hl.at_ i _ hxi;refine List.mem_map.2 ⟨l[i], List.mem_filter.2 ⟨List.mem_of_getElem? (i := i) (by rw [List.getElem?_take, if_pos hin]; exact hxi), ?_⟩, ?_⟩
  ·unfold meetN at h3;rw [hxi, hx] at h3;simp only [meetB, Bool.or_eq_true, Bool.and_eq_true, decide_eq_true_eq] at h3;simp only [liveAt, Bool.or_eq_true, Bool.and_eq_true, decide_eq_true_eq];omega
  ·rw [a1, show (i : Int).toNat = i by omega, h2]; rfl
 rw [List.length_map] at h1
 have h2 : cntAt l (n : Int) = ((l.take n).filter fun x => liveAt x (n : Int)).length + ((l.drop n).filter fun x => liveAt x (n : Int)).length := by
  unfold cntAt
  conv => lhs; rw [← List.take_append_drop n l]
  rw [List.filter_append, List.length_append]
 have h3 : 1 ≤ ((l.drop n).filter fun x => liveAt x (n : Int)).length := by
  refine List.length_pos_of_mem (a := l[n]) (List.mem_filter.2 ⟨List.mem_of_getElem? (i := 0) (by rw [List.getElem?_drop]; exact hx), ?_⟩);simp only [liveAt, Bool.or_eq_true, Bool.and_eq_true, decide_eq_true_eq];omega
 omega
def rdP (rg sl : List Int) (hm km : List (Int × Int)) (i : Nat) : Int := if rg.getD i 0 = -1 then lookL km (sl.getD i 0) else lookL hm (rg.getD i 0)
def rdV (rg sl : List Int) (hm km : List (Int × Int)) : List Int := (List.range rg.length).map (rdP rg sl hm km)
@[simp] theorem rdV_len (rg sl : List Int) (hm km : List (Int × Int)) : (rdV rg sl hm km).length = rg.length := by simp [rdV]
theorem rdV_at {rg sl : List Int} {hm km : List (Int × Int)} {i : Nat} (h : i < rg.length) : (rdV rg sl hm km).getD i 0 = rdP rg sl hm km i := by
 rw [List.getD_eq_getElem?_getD]; simp [rdV, h]
def M32 (l : List (Int × Int)) : Prop := ∀ a ∈ l, 0 ≤ a.2 ∧ a.2 < 4294967296
theorem M32.nil : M32 [] := fun a h => by cases h
theorem M32.upd {l : List (Int × Int)} (h : M32 l) {k v : Int} (hv : 0 ≤ v ∧ v < 4294967296) : M32 (updL l k v) := fun a ha => by
 rcases upd_mem ha with rfl | q
 ·exact hv
 ·exact h a q
theorem M32.look {l : List (Int × Int)} (h : M32 l) (k : Int) : 0 ≤ lookL l k ∧ lookL l k < 4294967296 := look_mem l k (fun x => 0 ≤ x ∧ x < 4294967296) ⟨Int.le_refl _, by decide⟩ h
theorem rdV_32 {rg sl : List Int} {hm km : List (Int × Int)} (h : M32 hm) (k : M32 km) : V32 (rdV rg sl hm km) := fun x hx => by
 unfold rdV at hx;obtain ⟨i, _, rfl⟩ := List.mem_map.1 hx;unfold rdP;split
 ·exact k.look _
 ·exact h.look _
structure PlanA (l : List IV) (rg sl : List Int) : Prop where
 lr : rg.length = l.length
 ls : sl.length = l.length
 one : ∀ (i : Nat) (r s : Int), rg[i]? = some r → sl[i]? = some s → (0 ≤ r ∧ s = -1) ∨ (r = -1 ∧ 0 ≤ s)
 apR : ∀ (i k : Nat) (r : Int), i < k → rg[i]? = some r → rg[k]? = some r → r ≠ -1 → meetN l i k = false
 apS : ∀ (i k : Nat) (s : Int), i < k → sl[i]? = some s → sl[k]? = some s → s ≠ -1 → meetN l i k = false
theorem PlanN.all {l : List IV} {regs : Nat} {rg sl : List Int} {slots : Int} (h : PlanN l regs l.length rg sl slots) : PlanA l rg sl where
 lr := h.lr
 ls := h.ls
 one := fun i r s h1 h2 => by
  have := (List.getElem?_eq_some_iff.1 h1).1;rcases h.place i r s (by rw [h.lr] at this; exact this) h1 h2 with ⟨a, _, b⟩ | ⟨a, b, _⟩
  ·exact .inl ⟨a, b⟩
  ·exact .inr ⟨a, b⟩
 apR := fun i k r hik h1 h2 hne => h.apR i k r hik (by have := (List.getElem?_eq_some_iff.1 h2).1; rw [h.lr] at this; exact this) h1 h2 hne
 apS := fun i k r hik h1 h2 hne => h.apS i k r hik (by have := (List.getElem?_eq_some_iff.1 h2).1; rw [h.ls] at this; exact this) h1 h2 hne
def stepH (rg sl : List Int) (n : Nat) (v : Int) (hm : List (Int × Int)) : List (Int × Int) := if rg.getD n 0 = -1 then hm else updL hm (rg.getD n 0) v
def stepK (rg sl : List Int) (n : Nat) (v : Int) (km : List (Int × Int)) : List (Int × Int) := if rg.getD n 0 = -1 then updL km (sl.getD n 0) v else km
end Ls
end Go.Proofs.Ytihacfclecanjaa
