/- Chapter 22: what fits. -/
import Derived.Test.YtihacfclecanjaaJf
import Derived.Test.YtihacfclecanjaaJd
namespace Go.Proofs.Ytihacfclecanjaa
open Go Go.Ev Go.RowKit
set_option linter.unusedVariables false
set_option linter.unusedSimpArgs false
set_option maxRecDepth 100000
namespace Ls
def stOk (d r : List Int) (fl : Int) : Bool := decide (d.length ≤ 16) && (decide (r.length ≤ 16) && decide (fl ≤ 15))
def argD (l : List Int) (k : Nat) : Int := l.getD (l.length - 1 - k) 0
def mkV (d r V : List Int) (x : II) : Int :=
 if x.1 = 0 then x.2.2.2.2 else if x.1 = 1 then argD d x.2.2.2.2.toNat else if x.1 = 2 then argD r x.2.2.2.2.toNat
 else if x.1 = 3 then doR x.2.2.2.2 (V.getD x.2.2.1.toNat 0) (V.getD x.2.2.2.1.toNat 0) else doF x.2.2.2.2 (V.getD x.2.2.1.toNat 0) (V.getD x.2.2.2.1.toNat 0)
def evV (c : List II) (d r : List Int) : Nat → List Int
 | 0 => List.replicate c.length 0
 | k + 1 => match c[k]? with | some x => (evV c d r k).set k (mkV d r (evV c d r k) x) | none => evV c d r k
@[simp] theorem evV_len (c : List II) (d r : List Int) : ∀ k, (evV c d r k).length = c.length
 | 0 => by simp [evV]
 | k + 1 => by unfold evV; split; (simp [evV_len c d r k]); exact evV_len c d r k
def V32 (V : List Int) : Prop := ∀ x ∈ V, 0 ≤ x ∧ x < 4294967296
noncomputable def f36b : Code := Try.f36.body.getD .skip
theorem f36_body : Try.f36.body = some f36b := by kernel_rfl
theorem f36_fn : T15.fn 36 = some Try.f36 := by kernel_rfl
theorem stright_s {q : Sx} {d dj r rj : List Int} {ka kb : Nat} {ro : Bool}  : SCall Try.prog T15 36 #[(stq q q.pc (.slice (some ⟨0, 0, none⟩) d.length ka) (.slice (some ⟨1, 0, none⟩) r.length kb) q.fl q.cnt)] (hq [(uCo (d ++ dj) ro), (uCo (r ++ rj) ro)]) fun v h => v = .bool (stOk d r q.fl) ∧ h = hq [(uCo (d ++ dj) ro), (uCo (r ++ rj) ro)] := by
 refine scall_sd 18 _ 2 kr f36_fn f36_body rfl rfl rfl fun X hX => ?_
 refine sd_run 13 ?_
 rcases Bool.eq_false_or_eq_true (decide ((d.length : Int) ≤ 16)) with hc1 | hc1
 ·skip
  refine sd_see 7 (.bool true) (see_bool kr hc1) (sd_run 6 ?_)
  rcases Bool.eq_false_or_eq_true (decide ((r.length : Int) ≤ 16)) with hc2 | hc2
  ·skip
   refine sd_see 13 (.bool true) (see_bool kr hc2) (sd_run 8 ?_)
   rcases Bool.eq_false_or_eq_true (decide ((q.fl : Int) ≤ 15)) with hc3 | hc3
   ·skip
    refine sd_see 2 (.bool true) (see_bool kr hc3) ?_
    simp only [bd] at hc1 hc2 hc3
    refine sdY (.bool true) hX [(uCo (d ++ dj) ro), (uCo (r ++ rj) ro)] i2_ ⟨uC_b, uC_b, ⟨⟩⟩ ⟨(by congr 1; unfold stOk; rw [Bool.eq_iff_iff]; simp; omega), rfl⟩
   ·skip
    refine sd_see 2 (.bool false) (see_bool kr hc3) ?_
    simp only [bd] at hc1 hc2 hc3
    refine sdY (.bool false) hX [(uCo (d ++ dj) ro), (uCo (r ++ rj) ro)] i2_ ⟨uC_b, uC_b, ⟨⟩⟩ ⟨(by congr 1; unfold stOk; rw [Bool.eq_iff_iff]; simp; omega), rfl⟩
  ·skip
   refine sd_see 13 (.bool false) (see_bool kr hc2) (sd_run 8 ?_)
   simp only [bd] at hc1 hc2
   refine sdY (.bool false) hX [(uCo (d ++ dj) ro), (uCo (r ++ rj) ro)] i2_ ⟨uC_b, uC_b, ⟨⟩⟩ ⟨(by congr 1; unfold stOk; rw [Bool.eq_iff_iff]; simp; omega), rfl⟩
 ·skip
  refine sd_see 7 (.bool false) (see_bool kr hc1) (sd_run 14 ?_)
  simp only [bd] at hc1
  refine sdY (.bool false) hX [(uCo (d ++ dj) ro), (uCo (r ++ rj) ro)] i2_ ⟨uC_b, uC_b, ⟨⟩⟩ ⟨(by congr 1; unfold stOk; rw [Bool.eq_iff_iff]; simp; omega), rfl⟩
end Ls
end Go.Proofs.Ytihacfclecanjaa
