/- Chapter 19: one instruction more is lowered. -/
import Derived.Test.YtgpphhdndmdlgaaKv
namespace Go.Proofs.Ytgpphhdndmdlgaa
open Go Go.Ev Go.RowKit
set_option linter.unusedVariables false
set_option linter.unusedSimpArgs false
set_option maxRecDepth 100000
namespace Ls
structure SimT (op : Int) (w w' : LW) (d0 r0 d r : List Int) : Prop where
 tg : (op = 39 → 0 ≤ w'.tg ∧ (valV w'.c d0 r0).getD w'.tg.toNat 0 = tpk r 1) ∧ (op = 40 → 0 ≤ w'.tg ∧ (valV w'.c d0 r0).getD w'.tg.toNat 0 = tpk d 1) ∧ (op ≠ 39 → op ≠ 40 → w'.tg = w.tg)
 br : w'.br = if 33 ≤ op ∧ op ≤ 37 then op else w.br
theorem putL_one (V l : List Int) (n : Nat) (out : List Int) (x : Int) : putL V l n (out ++ [x]) = putL V l n out ++ [V.getD x.toNat 0] := by rw [putL_app]; rfl
theorem putL_two (V l : List Int) (n : Nat) (out : List Int) (x y : Int) : putL V l n (out ++ [x, y]) = putL V l n out ++ [V.getD x.toNat 0, V.getD y.toNat 0] := by rw [putL_app]; rfl
theorem putL_three (V l : List Int) (n : Nat) (out : List Int) (x y z : Int) : putL V l n (out ++ [x, y, z]) = putL V l n out ++ [V.getD x.toNat 0, V.getD y.toNat 0, V.getD z.toNat 0] := by rw [putL_app]; rfl
theorem getD_last (V : List Int) (v : Int) (n : Nat) (h : n = V.length) : (V ++ [v]).getD n 0 = v := by
 subst h; rw [List.getD_eq_getElem?_getD]; simp
theorem canM_iff {op : Int} {d r : Nat} : canM op d r = true ↔ nD0 op ≤ d ∧ nR0 op ≤ r ∧ d - nD0 op + nD1 op ≤ 16 ∧ r - nR0 op + nR1 op ≤ 16 := by simp [canM]
theorem dup_eq (d : List Int) (h : 1 ≤ d.length) : lss d 1 ++ [tpk d 1, tpk d 1] = d ++ [tpk d 1] := by
 have e : d ++ [tpk d 1] = (lss d 1 ++ [tpk d 1]) ++ [tpk d 1] := by rw [← snoc_of d h]
 rw [e]; simp
theorem over_eq (d : List Int) (h : 2 ≤ d.length) : lss d 2 ++ [tpk d 2, tpk d 1, tpk d 2] = d ++ [tpk d 2] := by
 have e : d ++ [tpk d 2] = ((lss d 2 ++ [tpk d 2]) ++ [tpk d 1]) ++ [tpk d 2] := by
  rw [← lss_lss d h, ← tpk_lss d h, ← snoc_of (lss d 1) (by rw [lss_len]; omega), ← snoc_of d (by omega)]
 rw [e]; simp
theorem sim_one {op n nx : Int} {w : LW} {d0 r0 d r : List Int} {f0 fl : Int} (hp : plainB op = true) (hs : Sim w d0 r0 f0 d r fl) (hd : Vs w.c w.d) (hr : Vs w.c w.r) (hnd : 0 ≤ w.nd) (hnr : 0 ≤ w.nr) (hfl : w.fl = -1 ∨ (0 ≤ w.fl ∧ w.fl < (w.c.length : Int))) (hc : canM op d.length r.length = true) :
    Sim (oneB op n nx w) d0 r0 f0 (doD op n d r) (doRs op nx d r) (doFl op d fl) ∧ SimT op w (oneB op n nx w) d0 r0 d r := by
 obtain ⟨c, wd, wr, nd, hd', nr, hr', wf, tg, br⟩ := w
 obtain ⟨e1, e2, e3, e4, e5⟩ := hs
 simp only at e1 e2 e3 e4 e5 hd hr hnd hnr hfl
 obtain ⟨c1, d1, m1, n1, hq⟩ := popE 1 c wd nd
 obtain ⟨cr, r1, mr, nr1, hqr⟩ := popE 2 c wr nr
 obtain ⟨h1, h2, h3, h4⟩ := canM_iff.1 hc
 have P1 := fun h => pop_val (r0 := r0) hq (.inl ⟨rfl, rfl⟩) hd hnd e4 h
 have PR := fun h => pop_val (d0 := d0) hqr (.inr ⟨rfl, rfl⟩) hr hnr e5 h
 rw [← e1] at P1
 rw [← e2] at PR
 have hV : ∀ c' : List II, Pre (valV c d0 r0) (valV c' d0 r0) → c.length ≤ c'.length → leftF (valV c' d0 r0) wf f0 = fl ∧ (putL (valV c' d0 r0) r0 nr.toNat wr = r) ∧ putL (valV c' d0 r0) d0 nd.toNat wd = d := fun c' hp hl => by
  refine ⟨?_, ?_, ?_⟩
  ·rw [e3, hp.leftF (by rw [valV_len]; exact hfl)]
  ·rw [e2, hp.putL _ _ (by rw [valV_len]; exact hr)]
  ·rw [e1, hp.putL _ _ (by rw [valV_len]; exact hd)]
 have len1 : ∀ x : II, c.length ≤ (c ++ [x]).length := fun x => by simp
 rcases op_cases hp with ho | ho | ho | ho | ho | ho | ho | ho | ho | ho | ho | ho | ho | ho | ho | ho
 ·rw [one_nop (.inl ho)]; subst ho
  exact ⟨⟨by simpa [doD] using e1, by simpa [doRs] using e2, by simpa [doFl] using e3, e4, e5⟩, ⟨by simp, by simp⟩⟩
 ·rw [one_lit (.inl ho)]; subst ho
  obtain ⟨v1, v2, v3⟩ := hV _ (Pre.snoc c (0, ((c.length : Nat) : Int), 0, 0, n) d0 r0) (len1 _)
  refine ⟨⟨?_, by simpa [doRs] using v2.symm, by simpa [doFl] using v1.symm, e4, e5⟩, ⟨by simp, by simp⟩⟩
  rw [putL_one, v3, valV_snoc, getD_last _ _ _ (by simp)]; simp [doD, mkV]
 ·rw [one_lit (.inr ho)]; subst ho
  obtain ⟨v1, v2, v3⟩ := hV _ (Pre.snoc c (0, ((c.length : Nat) : Int), 0, 0, n) d0 r0) (len1 _)
  refine ⟨⟨?_, by simpa [doRs] using v2.symm, by simpa [doFl] using v1.symm, e4, e5⟩, ⟨by simp, by simp⟩⟩
  rw [putL_one, v3, valV_snoc, getD_last _ _ _ (by simp)]; simp [doD, mkV]
 ·rw [one_dup ho hq]; subst ho
  simp [nD0, nD1] at h1 h3
  obtain ⟨p1, p2, p3, p4, p5, p6, p7, p8⟩ := P1 (by omega)
  obtain ⟨v1, v2, v3⟩ := hV _ p1 p6
  refine ⟨⟨?_, by simpa [doRs] using v2.symm, by simpa [doFl] using v1.symm, p4, e5⟩, ⟨by simp, by simp⟩⟩
  rw [putL_two, p2, p3, dup_eq d (by omega)]; simp [doD]
 ·rw [one_drop ho hq]; subst ho
  simp [nD0, nD1] at h1 h3
  obtain ⟨p1, p2, p3, p4, p5, p6, p7, p8⟩ := P1 (by omega)
  obtain ⟨v1, v2, v3⟩ := hV _ p1 p6
  refine ⟨⟨?_, by simpa [doRs] using v2.symm, by simpa [doFl] using v1.symm, p4, e5⟩, ⟨by simp, by simp⟩⟩
  rw [p2]; simp [doD]
 ·simp only [ho, nD0, nD1] at h1 h3; simp at h1 h3
  obtain ⟨c2, d2, m2, n2, hq2⟩ := popE 1 c1 d1 m1
  rw [one_swap ho hq hq2]; subst ho
  obtain ⟨p1, p2, p3, p4, p5, p6, p7, p8⟩ := P1 (by omega)
  obtain ⟨q1, q2, q3, q4, q5, q6, q7, q8⟩ := pop_val (r0 := r0) hq2 (.inl ⟨rfl, rfl⟩) p7 p8 p4 (by rw [p2, lss_len]; omega)
  obtain ⟨v1, v2, v3⟩ := hV _ (p1.trans q1) (by omega)
  refine ⟨⟨?_, by simpa [doRs] using v2.symm, by simpa [doFl] using v1.symm, q4, e5⟩, ⟨by simp, by simp⟩⟩
  rw [putL_two, q2, q3, p2, q1.getD (by rw [valV_len]; omega), p3, lss_lss d h1, tpk_lss d h1]; simp [doD]
 ·simp only [ho, nD0, nD1] at h1 h3; simp at h1 h3
  obtain ⟨c2, d2, m2, n2, hq2⟩ := popE 1 c1 d1 m1
  rw [one_over ho hq hq2]; subst ho
  obtain ⟨p1, p2, p3, p4, p5, p6, p7, p8⟩ := P1 (by omega)
  obtain ⟨q1, q2, q3, q4, q5, q6, q7, q8⟩ := pop_val (r0 := r0) hq2 (.inl ⟨rfl, rfl⟩) p7 p8 p4 (by rw [p2, lss_len]; omega)
  obtain ⟨v1, v2, v3⟩ := hV _ (p1.trans q1) (by omega)
  refine ⟨⟨?_, by simpa [doRs] using v2.symm, by simpa [doFl] using v1.symm, q4, e5⟩, ⟨by simp, by simp⟩⟩
  rw [putL_three, q2, q3, p2, q1.getD (by rw [valV_len]; omega), p3, lss_lss d h1, tpk_lss d h1, over_eq d h1]; simp [doD]
 ·rw [one_tor ho hq]; subst ho
  simp [nD0, nD1] at h1 h3
  obtain ⟨p1, p2, p3, p4, p5, p6, p7, p8⟩ := P1 (by omega)
  obtain ⟨v1, v2, v3⟩ := hV _ p1 p6
  refine ⟨⟨by rw [p2]; simp [doD], ?_, by simpa [doFl] using v1.symm, p4, e5⟩, ⟨by simp, by simp⟩⟩
  rw [putL_one, v2, p3]; simp [doRs]
 ·rw [one_fromr ho hqr]; subst ho
  simp [nR0, nR1] at h2 h4
  obtain ⟨p1, p2, p3, p4, p5, p6, p7, p8⟩ := PR (by omega)
  obtain ⟨v1, v2, v3⟩ := hV _ p1 p6
  refine ⟨⟨?_, by rw [p2]; simp [doRs], by simpa [doFl] using v1.symm, e4, p4⟩, ⟨by simp, by simp⟩⟩
  rw [putL_one, v3, p3]; simp [doD]
 ·have e20 : nD0 op = 2 := by unfold nD0; rw [if_neg (by omega), if_pos (by omega)]
  rw [e20] at h1
  obtain ⟨c2, d2, m2, n2, hq2⟩ := popE 1 c1 d1 m1
  rw [one_alu ho hq hq2]
  obtain ⟨p1, p2, p3, p4, p5, p6, p7, p8⟩ := P1 (by omega)
  obtain ⟨q1, q2, q3, q4, q5, q6, q7, q8⟩ := pop_val (r0 := r0) hq2 (.inl ⟨rfl, rfl⟩) p7 p8 p4 (by rw [p2, lss_len]; omega)
  have s1 := Pre.snoc c2 (4, ((c2.length : Nat) : Int), n2, n1, op) d0 r0
  have s2 := Pre.snoc (c2 ++ [(4, ((c2.length : Nat) : Int), n2, n1, op)]) (3, (((c2 ++ [(4, ((c2.length : Nat) : Int), n2, n1, op)]).length : Nat) : Int), n2, n1, op) d0 r0
  obtain ⟨v1, v2, v3⟩ := hV _ (p1.trans (q1.trans (s1.trans s2))) (by simp; omega)
  have a2 : (valV c2 d0 r0).getD n2.toNat 0 = tpk d 2 := by rw [q3, p2, tpk_lss d h1]
  have a1 : (valV c2 d0 r0).getD n1.toNat 0 = tpk d 1 := by rw [q1.getD (by rw [valV_len]; omega), p3]
  refine ⟨⟨?_, ?_, ?_, q4, e5⟩, ⟨⟨fun h => by omega, fun h => by omega, fun _ _ => rfl⟩, by simp only; rw [if_neg (by omega)]⟩⟩
  ·rw [putL_one, (s1.trans s2).putL _ _ (by rw [valV_len]; exact q7), q2, p2, lss_lss d h1, valV_snoc, getD_last _ _ _ (by simp)]
   unfold doD
   rw [if_neg (by omega), if_neg (by omega), if_neg (by omega), if_neg (by omega), if_neg (by omega), if_neg (by omega), if_neg (by omega), if_neg (by omega), if_pos (by omega)]
   simp [mkV]
   rw [← List.getD_eq_getElem?_getD, ← List.getD_eq_getElem?_getD, s1.getD (by rw [valV_len]; omega), s1.getD (by rw [valV_len]; omega), a1, a2]
  ·unfold doRs; rw [if_neg (by omega), if_neg (by omega), if_neg (by omega), if_neg (by omega)]; exact v2.symm
  ·unfold doFl leftF
   have hne : ((c2.length : Nat) : Int) ≠ -1 := by omega
   rw [if_pos (by omega), if_neg hne, s2.getD (by rw [valV_len]; simp), valV_snoc, getD_last _ _ _ (by simp)]
   simp [mkV]
   rw [← List.getD_eq_getElem?_getD, ← List.getD_eq_getElem?_getD, a1, a2]
   have := doF_16 op (tpk d 2) (tpk d 1)
   omega
 ·have e20 : nD0 op = 2 := by unfold nD0; rw [if_neg (by omega), if_pos (by omega)]
  rw [e20] at h1
  obtain ⟨c2, d2, m2, n2, hq2⟩ := popE 1 c1 d1 m1
  rw [one_cmp ho hq hq2]
  obtain ⟨p1, p2, p3, p4, p5, p6, p7, p8⟩ := P1 (by omega)
  obtain ⟨q1, q2, q3, q4, q5, q6, q7, q8⟩ := pop_val (r0 := r0) hq2 (.inl ⟨rfl, rfl⟩) p7 p8 p4 (by rw [p2, lss_len]; omega)
  have s1 := Pre.snoc c2 (4, ((c2.length : Nat) : Int), n2, n1, op) d0 r0
  obtain ⟨v1, v2, v3⟩ := hV _ (p1.trans (q1.trans s1)) (by simp; omega)
  have a2 : (valV c2 d0 r0).getD n2.toNat 0 = tpk d 2 := by rw [q3, p2, tpk_lss d h1]
  have a1 : (valV c2 d0 r0).getD n1.toNat 0 = tpk d 1 := by rw [q1.getD (by rw [valV_len]; omega), p3]
  refine ⟨⟨?_, ?_, ?_, q4, e5⟩, ⟨⟨fun h => by omega, fun h => by omega, fun _ _ => rfl⟩, by simp only; rw [if_neg (by omega)]⟩⟩
  ·rw [s1.putL _ _ (by rw [valV_len]; exact q7), q2, p2, lss_lss d h1]
   subst ho; simp [doD]
  ·unfold doRs; rw [if_neg (by omega), if_neg (by omega), if_neg (by omega), if_neg (by omega)]; exact v2.symm
  ·unfold doFl leftF
   have hne : ((c2.length : Nat) : Int) ≠ -1 := by omega
   rw [if_pos (by omega), if_neg hne, valV_snoc, getD_last _ _ _ (by simp)]
   simp [mkV]
   rw [← List.getD_eq_getElem?_getD, ← List.getD_eq_getElem?_getD, a1, a2]
   have := doF_16 op (tpk d 2) (tpk d 1)
   omega
 ·rw [one_nop (.inr ho)]; subst ho
  exact ⟨⟨by simpa [doD] using e1, by simpa [doRs] using e2, by simpa [doFl] using e3, e4, e5⟩, ⟨by simp, by simp⟩⟩
 ·rw [one_jcc ho]
  refine ⟨⟨?_, ?_, ?_, e4, e5⟩, ⟨⟨fun h => by omega, fun h => by omega, fun _ _ => rfl⟩, by simp only; rw [if_pos ho]⟩⟩
  ·unfold doD; repeat rw [if_neg (by omega)]
   exact e1
  ·unfold doRs; repeat rw [if_neg (by omega)]
   exact e2
  ·unfold doFl; rw [if_neg (by omega)]; exact e3
 ·rw [one_call ho]; subst ho
  obtain ⟨v1, v2, v3⟩ := hV _ (Pre.snoc c (0, ((c.length : Nat) : Int), 0, 0, nx) d0 r0) (len1 _)
  refine ⟨⟨by simpa [doD] using v3.symm, ?_, by simpa [doFl] using v1.symm, e4, e5⟩, ⟨by simp, by simp⟩⟩
  rw [putL_one, v2, valV_snoc, getD_last _ _ _ (by simp)]; simp [doRs, mkV]
 ·rw [one_ret ho hqr]; subst ho
  simp [nR0, nR1] at h2 h4
  obtain ⟨p1, p2, p3, p4, p5, p6, p7, p8⟩ := PR (by omega)
  obtain ⟨v1, v2, v3⟩ := hV _ p1 p6
  exact ⟨⟨by simpa [doD] using v3.symm, by rw [p2]; simp [doRs], by simpa [doFl] using v1.symm, e4, p4⟩, ⟨⟨fun _ => ⟨p5.1, p3⟩, fun h => by omega, fun h => absurd rfl h⟩, by simp⟩⟩
 ·rw [one_jmpi ho hq]; subst ho
  simp [nD0, nD1] at h1 h3
  obtain ⟨p1, p2, p3, p4, p5, p6, p7, p8⟩ := P1 (by omega)
  obtain ⟨v1, v2, v3⟩ := hV _ p1 p6
  exact ⟨⟨by rw [p2]; simp [doD], by simpa [doRs] using v2.symm, by simpa [doFl] using v1.symm, p4, e5⟩, ⟨⟨fun h => by omega, fun _ => ⟨p5.1, p3⟩, fun _ h => absurd rfl h⟩, by simp⟩⟩
end Ls
end Go.Proofs.Ytgpphhdndmdlgaa
