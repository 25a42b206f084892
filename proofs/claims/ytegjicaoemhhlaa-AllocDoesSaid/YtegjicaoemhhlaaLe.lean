/- Chapter 21: values by a plan are the values. -/
import Derived.Test.YtegjicaoemhhlaaJt
import Derived.Test.YtegjicaoemhhlaaLa
set_option linter.unusedVariables false
set_option linter.unusedSimpArgs false
namespace Go.Proofs.Ytegjicaoemhhlaa
open Go Go.Ev Go.RowKit
set_option maxRecDepth 100000
namespace Ls
theorem evi_all {c : List II} {od rd d r rg sl : List Int} {nd nr hd hr fl tg br ct : Int} (hR : RightP c od rd nd nr hd hr fl tg br ct (c.length : Int)) (hp : PlanA (ofL c od rd fl tg) rg sl) :
    ∀ n : Nat, n ≤ c.length → EvI (ofL c od rd fl tg) (evV c d r n) rg sl n (evM c d r rg sl n).1 (evM c d r rg sl n).2 := by
 have hIv := iv_of hR;have hl := ivs_of hR;intro n
 induction n with
 | zero => intro _ i a hi; omega
 | succ n ih =>
  intro hn;have h := ih (by omega);have hx : c[n]? = some (c[n]'(by omega)) := List.getElem?_eq_getElem _;generalize c[n]'(by omega) = x at hx;have hln : n < (ofL c od rd fl tg).length := by rw [ofL_len]; omega
  have hmd := hR.code n x hx
  have key : mkV d r (rdV rg sl (evM c d r rg sl n).1 (evM c d r rg sl n).2) x = mkV d r (evV c d r n) x := by
   have use9 : ∀ A : Nat, A < n → (x.1 = 3 ∨ x.1 = 4) → (x.2.2.1 = (A : Int) ∨ x.2.2.2.1 = (A : Int)) → (rdV rg sl (evM c d r rg sl n).1 (evM c d r rg sl n).2).getD A 0 = (evV c d r n).getD A 0 := fun A hA hop hab => by
    rw [rdV_at (by rw [hp.lr]; omega)];have ha : (ofL c od rd fl tg)[A]? = some ((ofL c od rd fl tg)[A]'(by omega)) := List.getElem?_eq_getElem _;refine h A _ hA ha ?_;exact (hIv.at_ A _ ha).2.2.2.2.2 n (.inl ⟨n, x, by omega, hx, hop, hab, rfl⟩)
   by_cases hop : x.1 = 3 ∨ x.1 = 4
   ·obtain ⟨⟨a1, a2⟩, b1, b2⟩ := made_ab hmd hop;refine mkV_congr (fun _ => ⟨?_, ?_⟩) zo
    ·exact use9 _ (by omega) hop (.inl (by omega))
    ·exact use9 _ (by omega) hop (.inr (by omega))
   ·have := made_op9 (d := d) (r := r) hmd;refine mkV_congr (fun h9 => absurd h9 hop) ?_;obtain ⟨o, dd, a, b, im⟩ := x;obtain ⟨_, h⟩ := made_cases hmd;dsimp only at *;omega
  have hs := evi_step hl hp hln h (v := mkV d r (evV c d r n) x) (V' := evV c d r (n + 1)) (evV_succ hx) (by rw [evV_len]; omega);rw [evM_succ hx, key];exact hs
theorem evW_at {c : List II} {od rd d r rg sl : List Int} {nd nr hd hr fl tg br ct : Int} (hR : RightP c od rd nd nr hd hr fl tg br ct (c.length : Int)) (hp : PlanA (ofL c od rd fl tg) rg sl) {x : Int} (h0 : 0 ≤ x) (hx : x < (c.length : Int)) (h : x ∈ od ∨ x ∈ rd ∨ x = fl ∨ x = tg) :
    (evW c d r rg sl c.length).getD x.toNat 0 = (evV c d r c.length).getD x.toNat 0 := by
 obtain ⟨A, rfl⟩ := Int.eq_ofNat_of_zero_le h0;have hA : A < (ofL c od rd fl tg).length := by rw [ofL_len]; omega
 have ha : (ofL c od rd fl tg)[A]? = some ((ofL c od rd fl tg)[A]'hA) := List.getElem?_eq_getElem _;unfold evW;rw [show (A : Int).toNat = A by omega, rdV_at (by rw [hp.lr]; exact hA)];exact evi_all hR hp c.length (Nat.le_refl _) A _ (by omega) ha ((iv_of hR).at_ A _ ha |>.2.2.2.2.2 _ (.inr ⟨h, rfl⟩))
theorem ew_put {c : List II} {od rd d r rg sl : List Int} {nd nr hd hr fl tg br ct : Int} (hR : RightP c od rd nd nr hd hr fl tg br ct (c.length : Int)) (hp : PlanA (ofL c od rd fl tg) rg sl) (l : List Int) (n : Nat) : putL (evW c d r rg sl c.length) l n od = putL (evV c d r c.length) l n od ∧ putL (evW c d r rg sl c.length) l n rd = putL (evV c d r c.length) l n rd :=
 ⟨putL_congr fun x hx => by
  obtain ⟨k, hk⟩ := List.mem_iff_getElem?.1 hx;have := valB_iff2.1 (hR.od_ k x hk);exact evW_at hR hp this.1 this.2 (.inl hx), putL_congr fun x hx => by
  obtain ⟨k, hk⟩ := List.mem_iff_getElem?.1 hx;have := valB_iff2.1 (hR.rd_ k x hk)
  exact evW_at hR hp this.1 this.2 (.inr (.inl hx))⟩
theorem ew_fl {c : List II} {od rd d r rg sl : List Int} {nd nr hd hr fl tg br ct : Int} (hR : RightP c od rd nd nr hd hr fl tg br ct (c.length : Int)) (hp : PlanA (ofL c od rd fl tg) rg sl) (f0 : Int) : leftF (evW c d r rg sl c.length) fl f0 = leftF (evV c d r c.length) fl f0 := by
 unfold leftF;split
 ·rfl
 ·rcases hR.fl_ with h | h
  ·contradiction
  ·have := valB_iff2.1 h;rw [evW_at hR hp this.1 this.2 (.inr (.inr (.inl rfl)))]
theorem ew_pc {c : List II} {od rd d r rg sl : List Int} {nd nr hd hr fl tg br ct : Int} (hR : RightP c od rd nd nr hd hr fl tg br ct (c.length : Int)) (hp : PlanA (ofL c od rd fl tg) rg sl) (nx tk F : Int) : leftP (evW c d r rg sl c.length) nx tg br tk F = leftP (evV c d r c.length) nx tg br tk F := by
 unfold leftP;split
 ·rfl
 ·split
  ·rfl
  ·rcases hR.tg_ with h | h
   ·contradiction
   ·have := valB_iff2.1 h;rw [evW_at hR hp this.1 this.2 (.inr (.inr (.inr rfl)))]
end Ls
end Go.Proofs.Ytegjicaoemhhlaa
