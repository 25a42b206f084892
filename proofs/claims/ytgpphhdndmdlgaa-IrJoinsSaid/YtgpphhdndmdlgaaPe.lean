/- Chapter 19: what is done in a row. -/
import Derived.Test.YtgpphhdndmdlgaaPd
import Derived.Test.YtgpphhdndmdlgaaKh
namespace Go.Proofs.Ytgpphhdndmdlgaa
open Go Go.Ev Go.RowKit
set_option linter.unusedVariables false
set_option linter.unusedSimpArgs false
set_option maxRecDepth 100000
namespace Ls
theorem V32.tpk {l : List Int} (h : V32 l) (k : Nat) : 0 ≤ tpk l k ∧ tpk l k < 4294967296 := h.getD _
theorem V32.lss {l : List Int} (h : V32 l) (k : Nat) : V32 (lss l k) := fun x hx => h x (List.mem_of_mem_take hx)
theorem V32.app {l m : List Int} (h : V32 l) (k : V32 m) : V32 (l ++ m) := fun x hx => (List.mem_append.1 hx).elim (h x) (k x)
theorem V32.one {x : Int} (h : 0 ≤ x ∧ x < 4294967296) : V32 [x] := fun y hy => by simp at hy; subst hy; exact h
theorem V32.two {x z : Int} (h : 0 ≤ x ∧ x < 4294967296) (k : 0 ≤ z ∧ z < 4294967296) : V32 [x, z] := fun y hy => by simp at hy; rcases hy with rfl | rfl <;> assumption
theorem doD_32 {op n : Int} {d r : List Int} (hd : V32 d) (hr : V32 r) (hn : 0 ≤ n ∧ n < 4294967296) : V32 (doD op n d r) := by
 unfold doD
 repeat' split
 all_goals first
  | exact hd.app (.one hn)
  | exact hd.app (.one (hd.tpk _))
  | exact hd.app (.one (hr.tpk _))
  | exact hd.lss _
  | exact (hd.lss _).app (.two (hd.tpk _) (hd.tpk _))
  | exact (hd.lss _).app (.one (doR_rng _ _ _ (hd.tpk _).1 (hd.tpk _).2 (hd.tpk _).1 (hd.tpk _).2))
  | exact hd
theorem doRs_32 {op nx : Int} {d r : List Int} (hd : V32 d) (hr : V32 r) (hn : 0 ≤ nx ∧ nx < 4294967296) : V32 (doRs op nx d r) := by
 unfold doRs
 repeat' split
 all_goals first
  | exact hr.app (.one (hd.tpk _))
  | exact hr.lss _
  | exact hr.app (.one hn)
  | exact hr
theorem doFl_in {op fl : Int} {d : List Int} (h : 0 ≤ fl ∧ fl ≤ 15) : 0 ≤ doFl op d fl ∧ doFl op d fl ≤ 15 := by
 unfold doFl
 split
 ·have := doF_16 op (tpk d 2) (tpk d 1); omega
 ·exact h
theorem doD_len {op n : Int} {d r : List Int} (hp : plainB op = true) (hc : canM op d.length r.length = true) (nx : Int) : (doD op n d r).length ≤ 16 ∧ (doRs op nx d r).length ≤ 16 := by
 obtain ⟨h1, h2, h3, h4⟩ := canM_iff.1 hc
 rcases op_lits hp with rfl | rfl | rfl | rfl | rfl | rfl | rfl | rfl | rfl | rfl | rfl | rfl | rfl | rfl | rfl | rfl | rfl | rfl | rfl | rfl | rfl | rfl | rfl | rfl | rfl | rfl | rfl
 all_goals
  simp only [nD0, nD1, nR0, nR1] at h1 h2 h3 h4
  simp at h1 h2 h3 h4
  refine ⟨?_, ?_⟩
  ·simp [doD, lss_len]; try omega
  ·simp [doRs, lss_len]; try omega
structure LInv (l : List (Int × Int)) (d r : List Int) (q : Sx) (pc : Int) (k : Nat) (z : Sx) (D R : List Int) (tr : Bool) : Prop where
 no : tr = false → runM l ⟨d, r, q.fl, pc⟩ k = some ⟨D, R, z.fl, z.pc⟩ ∧ z = { q with pc := z.pc, fl := z.fl, cnt := IntKind.u64.wrap (q.cnt + (k : Int)) } ∧ D.length ≤ 16 ∧ R.length ≤ 16 ∧ V32 D ∧ V32 R ∧ (0 ≤ z.fl ∧ z.fl ≤ 15)
 yes : tr = true → runM l ⟨d, r, q.fl, pc⟩ l.length = none
theorem movL_len2 (P l : List Int) : (movL P l).length = l.length := by simp [movL]
theorem low_end {l : List (Int × Int)} {pc : Int} (hok : OkIns l) (hn : ∀ x ∈ l, 0 ≤ x.2 ∧ x.2 < 4294967296) {d0 r0 : List Int} {f0 : Int} (hd : d0.length ≤ 16) (hr : r0.length ≤ 16) (hf : f0 ≤ 15) {c : List II} {d r : List Int} {nd h1 nr h2 fl tg br f1 t1 nx tk : Int} {C : List II} {OD RD : List Int} (hw : lowW l pc l.length = ⟨c, d, r, nd, h1, nr, h2, fl, tg, br⟩)
    (e1 : f1 = movO (swP c d r fl tg) fl) (e2 : t1 = movO (swP c d r fl tg) tg) (e3 : nx = lowNext l (lowPc l pc l.length)) (e4 : tk = lowTaken l (lowPc l pc l.length) br) (e5 : C = swC c d r fl tg) (e6 : OD = movL (swP c d r fl tg) d) (e7 : RD = movL (swP c d r fl tg) r) :
    (RightP C OD RD nd nr h1 h2 f1 t1 br (l.length : Int) (C.length : Int) ∧ (∀ x ∈ C, 0 ≤ x.2.2.2.2 ∧ x.2.2.2.2 < 4294967296) ∧ OD.length < 100 ∧ RD.length < 100) ∧
    (runM l ⟨d0, r0, f0, pc⟩ l.length = none → fitsB nd nr h1 h2 d0 r0 f0 = false) ∧
    (∀ D R F P, runM l ⟨d0, r0, f0, pc⟩ l.length = some ⟨D, R, F, P⟩ → fitsB nd nr h1 h2 d0 r0 f0 = true ∧ ¬ ((d0.length : Int) - nd + (OD.length : Int) > 16 ∨ (r0.length : Int) - nr + (RD.length : Int) > 16) ∧
     D = putL (evV C d0 r0 C.length) d0 nd.toNat OD ∧ R = putL (evV C d0 r0 C.length) r0 nr.toNat RD ∧ F = leftF (evV C d0 r0 C.length) f1 f0 ∧ P = leftP (evV C d0 r0 C.length) nx t1 br tk F) := by
 have hlr := low_right (pc := pc) hok hn
 have hli := (low_inv (pc := pc) hok hn _ (Nat.le_refl _)).1
 obtain ⟨a1, a2⟩ := low_does (pc := pc) (f0 := f0) hok hn hd hr hw
 rw [hw] at hlr hli
 have him := hli.cr.imm
 have hm := hok.most
 have hdl := hli.dle; have hrl := hli.rle
 simp only at hlr him hdl hrl
 obtain ⟨hR, hi⟩ := sweep_right hlr him
 subst e1 e2 e3 e4 e5 e6 e7
 have l1 := movL_len2 (swP c d r fl tg) d
 have l2 := movL_len2 (swP c d r fl tg) r
 refine ⟨⟨hR, hi, by omega, by omega⟩, fun hnone => ?_, fun D R F P hs => ?_⟩
 ·have : ¬ (nd ≤ (d0.length : Int) ∧ (d0.length : Int) + h1 ≤ 16 ∧ nr ≤ (r0.length : Int) ∧ (r0.length : Int) + h2 ≤ 16) := fun q => by have := a1.2 q; rw [hnone] at this; cases this
  cases hb : fitsB nd nr h1 h2 d0 r0 f0 with
  | false => rfl
  | true => obtain ⟨_, q1, q2⟩ := fitsB_iff.1 hb; omega
 ·have hfit := a1.1 (by rw [hs]; rfl)
  obtain ⟨b1, b2, b3, b4, b5, b6, b7, b8⟩ := a2 _ hs
  simp only at b1 b2 b3 b4 b5 b6 b7 b8
  refine ⟨fitsB_iff.2 ⟨⟨hd, hr, hf⟩, by omega, by omega⟩, by rw [l1, l2]; omega, b1, b2, b3, b4⟩
end Ls
end Go.Proofs.Ytgpphhdndmdlgaa
