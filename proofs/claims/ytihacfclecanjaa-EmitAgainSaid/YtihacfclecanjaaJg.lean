/- Chapter 22: what fits. -/
import Derived.Test.YtihacfclecanjaaJf
import Derived.Test.YtihacfclecanjaaJd
set_option linter.unusedVariables false
set_option linter.unusedSimpArgs false
namespace Go.Proofs.Ytihacfclecanjaa
open Go Go.Ev Go.RowKit
set_option maxRecDepth 100000
namespace Ls
def stOk (d r : List Int) (fl : Int) : Bool := decide (d.length ≤ 16) && (decide (r.length ≤ 16) && decide (fl ≤ 15))
def argD (l : List Int) (k : Nat) : Int := l.getD (l.length - 1 - k) 0
def mkV (d r V : List Int) (x : II) : Int :=
 if x.1 = 0 then x.2.2.2.2 else if x.1 = 1 then argD d x.2.2.2.2.toNat else if x.1 = 2 then argD r x.2.2.2.2.toNat
 else if x.1 = 3 then doR x.2.2.2.2 (V.getD x.2.2.1.toNat 0) (V.getD x.2.2.2.1.toNat 0) else doF x.2.2.2.2 (V.getD x.2.2.1.toNat 0) (V.getD x.2.2.2.1.toNat 0)
def evV (c : List II) (d r : List Int) : Nat → List Int
 | 0 => List.replicate c.length 0
 | k + 1 => match c[k]? with | some x => (evV c d r k).set k (mkV d r (evV c d r k) x) | none => evV c d r k
@[simp] theorem evV_len (c : List II) (d r : List Int) : ∀ k, (evV c d r k).length = c.length
 | 0 => by simp [evV]
 | k + 1 => by unfold evV; split; (simp [evV_len c d r k]); exact evV_len c d r k
def putL (V l : List Int) (need : Nat) (out : List Int) : List Int := l.take (l.length - need) ++ out.map fun x => V.getD x.toNat 0
def leftF (V : List Int) (fl f0 : Int) : Int := if fl = -1 then f0 else V.getD fl.toNat 0 % 16
def leftP (V : List Int) (nx tg br tk F : Int) : Int := if hK br = true ∧ hB br F = true then tk else if tg = -1 then nx else V.getD tg.toNat 0
theorem valB_iff2 {n k : Int} : valB n k = true ↔ 0 ≤ n ∧ n < k := by simp [valB]
def V32 (V : List Int) : Prop := ∀ x ∈ V, 0 ≤ x ∧ x < 4294967296
theorem V32.getD {V : List Int} (h : V32 V) (n : Nat) : 0 ≤ V.getD n 0 ∧ V.getD n 0 < 4294967296 := by
 rw [List.getD_eq_getElem?_getD];cases hn : V[n]? with
 | none => exact ⟨Int.le_refl _, by decide⟩
 | some x => exact h x (List.mem_of_getElem? hn)
theorem doF_rng (op a b : Int) (h0 : 0 ≤ a) (h1 : a < 4294967296) (h2 : 0 ≤ b) (h3 : b < 4294967296) : 0 ≤ doF op a b ∧ doF op a b < 4294967296 := by
 unfold doF moreF lessF;have p1 := pf_rng ((a + b) % 4294967296); have p2 := pf_rng ((a - b) % 4294967296); have p3 := pf_rng (doR op a b); have p4 := pf_rng (a / b)
 repeat' split
 all_goals omega
theorem mkV_rng {d r V : List Int} (hd : V32 d) (hr : V32 r) (hV : V32 V) {x : II} (hx : 0 ≤ x.2.2.2.2 ∧ x.2.2.2.2 < 4294967296) : 0 ≤ mkV d r V x ∧ mkV d r V x < 4294967296 := by
 unfold mkV;split
 ·exact hx
 split
 ·exact hd.getD _
 split
 ·exact hr.getD _
 have a := hV.getD x.2.2.1.toNat
 have b := hV.getD x.2.2.2.1.toNat
 split
 ·exact doR_rng _ _ _ a.1 a.2 b.1 b.2
 ·exact doF_rng _ _ _ a.1 a.2 b.1 b.2
theorem V32.putL {V l : List Int} (hl : V32 l) (hV : V32 V) (n : Nat) (out : List Int) : V32 (putL V l n out) := fun x hx => by
 rcases List.mem_append.1 hx with h | h
 ·exact hl x (List.mem_of_mem_take h)
 ·obtain ⟨y, _, rfl⟩ := List.mem_map.1 h;exact hV.getD _
noncomputable def f36b : Code := Try.f36.body.getD .skip
theorem stright_s {q : Sx} {d dj r rj : List Int} {ka kb : Nat} {ro : Bool}  : SCall Try.prog T15 36 #[(stq q q.pc (sK 0 d.length ka) (sK 1 r.length kb) q.fl q.cnt)] (hq [(uCo (d ++ dj) ro), (uCo (r ++ rj) ro)]) fun v h => v = .bool (stOk d r q.fl) ∧ h = hq [(uCo (d ++ dj) ro), (uCo (r ++ rj) ro)] := by
 refine zS Try.f36 f36b 18 2 fun X hX => ?_
 refine zB 13 7 (decide ((d.length : Int) ≤ 16)) (fun hc1 => ?_) fun hc1 => ?_
 ·refine zB 6 13 (decide ((r.length : Int) ≤ 16)) (fun hc2 => ?_) fun hc2 => ?_
  ·refine zB 8 2 (decide ((q.fl : Int) ≤ 15)) (fun hc3 => ?_) fun hc3 => ?_
   ·simp only [bd] at hc1 hc2 hc3;refine zY (.bool true) hX i2_ ⟨(by congr 1; unfold stOk; rw [Bool.eq_iff_iff]; simp; omega), rfl⟩
   ·simp only [bd] at hc1 hc2 hc3;refine zY (.bool false) hX i2_ ⟨(by congr 1; unfold stOk; rw [Bool.eq_iff_iff]; simp; omega), rfl⟩
  ·refine sd_run 8 ?_;simp only [bd] at hc1 hc2;refine zY (.bool false) hX i2_ ⟨(by congr 1; unfold stOk; rw [Bool.eq_iff_iff]; simp; omega), rfl⟩
 ·refine sd_run 14 ?_;simp only [bd] at hc1;refine zY (.bool false) hX i2_ ⟨(by congr 1; unfold stOk; rw [Bool.eq_iff_iff]; simp; omega), rfl⟩
end Ls
end Go.Proofs.Ytihacfclecanjaa
