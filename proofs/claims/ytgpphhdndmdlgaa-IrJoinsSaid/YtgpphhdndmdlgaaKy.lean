/- Chapter 19: what sweep leaves makes the same. -/
import Derived.Test.YtgpphhdndmdlgaaKx
namespace Go.Proofs.Ytgpphhdndmdlgaa
open Go Go.Ev Go.RowKit
set_option linter.unusedVariables false
set_option linter.unusedSimpArgs false
set_option maxRecDepth 100000
namespace Ls
structure PV (c : List II) (d r : List Int) (u : List Bool) (k : Nat) (q : List Int × List II) : Prop where
 pl : ∀ i : Nat, i < k → u[i]? = some true → ∃ p : Nat, q.1[i]? = some (p : Int) ∧ p < q.2.length ∧ (valV q.2 d r).getD p 0 = (valV c d r).getD i 0
theorem mkV_val {c : List II} {d r : List Int} {k : Nat} {x : II} (hx : c[k]? = some x) : (valV c d r).getD k 0 = mkV d r (evV c d r k) x := by
 obtain ⟨hk, hxe⟩ := List.getElem?_eq_some_iff.1 hx
 have e : c = c.take (k + 1) ++ c.drop (k + 1) := (List.take_append_drop _ _).symm
 have aux : ∀ j, j ≤ c.length → k < j → (evV c d r j).getD k 0 = mkV d r (evV c d r k) x := by
  intro j
  induction j with
  | zero => intro _ h; omega
  | succ j ih =>
   intro hj hkj
   have hy : c[j]? = some (c[j]'(by omega)) := List.getElem?_eq_getElem _
   rw [evV_succ hy, List.getD_eq_getElem?_getD, List.getElem?_set]
   by_cases hjk : j = k
   ·subst hjk
    rw [hx] at hy; cases hy
    rw [if_pos rfl, if_pos (by simp; omega)]; rfl
   ·rw [if_neg hjk, ← List.getD_eq_getElem?_getD]; exact ih (by omega) (by omega)
 exact aux c.length (Nat.le_refl _) hk
theorem evV_at {c : List II} {d r : List Int} {k i : Nat} (hk : k ≤ c.length) (hi : i < k) : (evV c d r k).getD i 0 = (valV c d r).getD i 0 := by
 have aux : ∀ j, k ≤ j → j ≤ c.length → (evV c d r j).getD i 0 = (evV c d r k).getD i 0 := by
  intro j
  induction j with
  | zero => intro h1 _; omega
  | succ j ih =>
   intro h1 h2
   by_cases hjk : k = j + 1
   ·subst hjk; rfl
   have hy : c[j]? = some (c[j]'(by omega)) := List.getElem?_eq_getElem _
   rw [evV_succ hy, List.getD_eq_getElem?_getD, List.getElem?_set, if_neg (by omega), ← List.getD_eq_getElem?_getD]
   exact ih (by omega) (by omega)
 exact (aux c.length hk (Nat.le_refl _)).symm
theorem plS_val {c : List II} {u : List Bool} {nd nr : Int} {d r : List Int} (hu : u.length = c.length) (hc : ∀ (j : Nat) (x : II), c[j]? = some x → madeB nd nr x j = true)
    (hcl : ∀ (i : Nat) (x : II), c[i]? = some x → (x.1 = 3 ∨ x.1 = 4) → u[i]? = some true → u[x.2.2.1.toNat]? = some true ∧ u[x.2.2.2.1.toNat]? = some true) : ∀ k, k ≤ c.length → PV c d r u k (plS c u k) := by
 intro k
 induction k with
 | zero => exact fun _ => ⟨fun i h => by omega⟩
 | succ k ih =>
  intro hk
  have h := ih (by omega)
  have hx : c[k]? = some (c[k]'(by omega)) := List.getElem?_eq_getElem _
  generalize c[k]'(by omega) = x at hx
  have hb : u[k]? = some (u[k]'(by omega)) := List.getElem?_eq_getElem _
  generalize u[k]'(by omega) = b at hb
  cases b with
  | false =>
   rw [plS_no hx hb]
   refine ⟨fun i hik hu' => ?_⟩
   rcases (by omega : i < k ∨ i = k) with q | rfl
   ·exact h.pl i q hu'
   ·rw [hb] at hu'; cases hu'
  | true =>
   rw [plS_yes hx hb]
   have hpl := plS_len c u k
   generalize hP : (plS c u k).1 = P at *
   generalize hC : (plS c u k).2 = C at *
   have hm := hc k x hx
   have hpl' : ∀ i : Nat, i < k → u[i]? = some true → ∃ p : Nat, P[i]? = some (p : Int) ∧ p < C.length ∧ (valV C d r).getD p 0 = (valV c d r).getD i 0 := fun i h1 h2 => by
    have := h.pl i h1 h2; rw [hP, hC] at this; exact this
   have key : mkV d r (valV C d r) (plX (P.set k ((C.length : Nat) : Int)) ((C.length : Nat) : Int) x) = (valV c d r).getD k 0 := by
    rw [mkV_val hx]
    by_cases hop : x.1 = 3 ∨ x.1 = 4
    ·obtain ⟨⟨y1, y2⟩, y3, y4⟩ := made_ab hm hop
     obtain ⟨g1, g2⟩ := hcl k x hx hop hb
     obtain ⟨p1, r1, r2, r3⟩ := hpl' _ (by omega) g1
     obtain ⟨p2, r4, r5, r6⟩ := hpl' _ (by omega) g2
     rw [plX_yes (A := x.2.2.1.toNat) (B := x.2.2.2.1.toNat) (b1 := p1) (b2 := p2) hop (by omega) (by omega) (by rw [List.getElem?_set, if_neg (by omega)]; exact r1) (by rw [List.getElem?_set, if_neg (by omega)]; exact r4)]
     unfold mkV
     simp only [Int.toNat_natCast]
     rw [evV_at (i := x.2.2.1.toNat) (by omega) (by omega), evV_at (i := x.2.2.2.1.toNat) (by omega) (by omega), r3, r6]
    ·rw [plX_no hop]
     unfold mkV
     obtain ⟨o, dd, a, b', im⟩ := x
     have := (made_cases hm).2
     simp only at hop this ⊢
     rcases (by omega : o = 0 ∨ o = 1 ∨ o = 2) with rfl | rfl | rfl <;> simp
   refine ⟨fun i hik hu' => ?_⟩
   simp only
   rcases (by omega : i < k ∨ i = k) with q | rfl
   ·obtain ⟨p, r1, r2, r3⟩ := hpl' i q hu'
    refine ⟨p, by rw [List.getElem?_set, if_neg (by omega)]; exact r1, by simp; omega, ?_⟩
    rw [(Pre.snoc C _ d r).getD (by rw [valV_len]; exact r2)]
    exact r3
   ·refine ⟨C.length, by rw [List.getElem?_set, if_pos rfl, if_pos (by omega)], by simp, ?_⟩
    rw [valV_snoc, getD_last _ _ _ (by simp), key]
theorem sweep_val {c : List II} {od rd : List Int} {nd nr hd hr fl tg br ct : Int} {d r : List Int} (hR : RightP c od rd nd nr hd hr fl tg br ct (c.length : Int)) :
    (∀ x ∈ od, (valV (swC c od rd fl tg) d r).getD (movI (swP c od rd fl tg) x).toNat 0 = (valV c d r).getD x.toNat 0) ∧ (∀ x ∈ rd, (valV (swC c od rd fl tg) d r).getD (movI (swP c od rd fl tg) x).toNat 0 = (valV c d r).getD x.toNat 0) ∧
    (∀ x ∈ [fl, tg], x ≠ -1 → movO (swP c od rd fl tg) x ≠ -1 ∧ (valV (swC c od rd fl tg) d r).getD (movO (swP c od rd fl tg) x).toNat 0 = (valV c d r).getD x.toNat 0) := by
 have hu0 : (outS (outS (outS (List.replicate c.length false) od) rd) [fl, tg]).length = c.length := by simp
 have hul : (swU c od rd fl tg).length = c.length := by unfold swU; rw [bkU_len, hu0]
 have hI := plS_val (d := d) (r := r) (u := swU c od rd fl tg) hul hR.code (fun i x hx hop hb => bkU_closed hu0 hR.code c.length (Nat.le_refl _) i x (by omega) hx hop hb) c.length (Nat.le_refl _)
 have base : Le (outS (outS (outS (List.replicate c.length false) od) rd) [fl, tg]) (swU c od rd fl tg) := bkU_le _ _ _
 have at_ : ∀ x : Int, (0 ≤ x ∧ x < (c.length : Int)) → (swU c od rd fl tg)[x.toNat]? = some true → 0 ≤ movI (swP c od rd fl tg) x ∧ (valV (swC c od rd fl tg) d r).getD (movI (swP c od rd fl tg) x).toNat 0 = (valV c d r).getD x.toNat 0 := fun x hx hm => by
  obtain ⟨p, r1, r2, r3⟩ := hI.pl x.toNat (by omega) hm
  have e : movI (swP c od rd fl tg) x = (p : Int) := by unfold movI swP; rw [List.getD_eq_getElem?_getD, r1]; rfl
  rw [e]
  exact ⟨by omega, r3⟩
 refine ⟨fun x hx => ?_, fun x hx => ?_, fun x hx h1 => ?_⟩
 ·obtain ⟨k, hk⟩ := List.mem_iff_getElem?.1 hx
  have hv := valB_iff.1 (hR.od_ k x hk)
  exact (at_ x hv (base _ (outS_le _ _ _ (outS_le _ _ _ (outS_in _ _ _ hx hv.1 (by simpa using hv.2)))))).2
 ·obtain ⟨k, hk⟩ := List.mem_iff_getElem?.1 hx
  have hv := valB_iff.1 (hR.rd_ k x hk)
  exact (at_ x hv (base _ (outS_le _ _ _ (outS_in _ _ _ hx hv.1 (by simpa using hv.2))))).2
 ·have hv : 0 ≤ x ∧ x < (c.length : Int) := by
    rcases (by simpa using hx : x = fl ∨ x = tg) with rfl | rfl
    ·exact valB_iff.1 (hR.fl_.resolve_left h1)
    ·exact valB_iff.1 (hR.tg_.resolve_left h1)
  have := at_ x hv (base _ (outS_in _ _ _ hx hv.1 (by simpa using hv.2)))
  unfold movO
  rw [if_neg h1]
  exact ⟨by omega, this.2⟩
theorem low_high {l : List (Int × Int)} {pc : Int} (hok : OkIns l) : ∀ k, k ≤ l.length → ((lowW l pc k).d.length : Int) - (lowW l pc k).nd ≤ (lowW l pc k).hd ∧ ((lowW l pc k).r.length : Int) - (lowW l pc k).nr ≤ (lowW l pc k).hr
 | 0, _ => by simp [lowW, low0]
 | k + 1, hk => by
  have hx : l[k]? = some (l[k]'(by omega)) := List.getElem?_eq_getElem _
  generalize l[k]'(by omega) = x at hx
  obtain ⟨q1, q2, q3⟩ := hok.ok k x hx
  rw [lowW_succ hx]
  obtain ⟨g1, g2⟩ := hd_le (n := x.2) (nx := IntKind.u32.wrap (lowPc l pc k + sizeZ x.1)) (w := lowW l pc k) q2
  rw [g1, g2]
  exact ⟨Int.le_max_right _ _, Int.le_max_right _ _⟩
theorem low_does {l : List (Int × Int)} {pc : Int} (hok : OkIns l) (hn : ∀ x ∈ l, 0 ≤ x.2 ∧ x.2 < 4294967296) {d0 r0 : List Int} {f0 : Int} (hd : d0.length ≤ 16) (hr : r0.length ≤ 16) {c : List II} {d r : List Int} {nd h1 nr h2 fl tg br : Int} (hw : lowW l pc l.length = ⟨c, d, r, nd, h1, nr, h2, fl, tg, br⟩) :
    ((runM l ⟨d0, r0, f0, pc⟩ l.length).isSome = true ↔ nd ≤ (d0.length : Int) ∧ (d0.length : Int) + h1 ≤ 16 ∧ nr ≤ (r0.length : Int) ∧ (r0.length : Int) + h2 ≤ 16) ∧
    ∀ s, runM l ⟨d0, r0, f0, pc⟩ l.length = some s →
     s.d = putL (valV (swC c d r fl tg) d0 r0) d0 nd.toNat (movL (swP c d r fl tg) d) ∧ s.r = putL (valV (swC c d r fl tg) d0 r0) r0 nr.toNat (movL (swP c d r fl tg) r) ∧
     s.fl = leftF (valV (swC c d r fl tg) d0 r0) (movO (swP c d r fl tg) fl) f0 ∧
     s.pc = leftP (valV (swC c d r fl tg) d0 r0) (lowNext l (lowPc l pc l.length)) (movO (swP c d r fl tg) tg) br (lowTaken l (lowPc l pc l.length) br) s.fl ∧ s.d.length ≤ 16 ∧ s.r.length ≤ 16 ∧ (s.d.length : Int) = (d0.length : Int) - nd + (d.length : Int) ∧ (s.r.length : Int) = (r0.length : Int) - nr + (r.length : Int) := by
 obtain ⟨a1, a2⟩ := low_run (pc := pc) (f0 := f0) hok hn hd hr l.length (Nat.le_refl _)
 obtain ⟨i1, _⟩ := low_inv (pc := pc) hok hn l.length (Nat.le_refl _)
 have hR := low_right (pc := pc) hok hn
 have hlast := fun s hs => low_last (pc := pc) (f0 := f0) hok hn hd hr (s := s) hs
 rw [hw] at a1 a2 hR hlast i1
 simp only at hR hlast
 obtain ⟨v1, v2, v3⟩ := sweep_val (d := d0) (r := r0) hR
 refine ⟨a2, fun s hs => ?_⟩
 have hh := (a1 s hs).1
 have hfit := a2.1 (by rw [hs]; rfl)
 have hin1 := i1.nd.1
 have hin2 := i1.nr.1
 obtain ⟨f1, f2, f3, f4⟩ := hfit
 simp only at f1 f2 f3 f4 hin1 hin2
 obtain ⟨s1, s2, s3, s4, s5⟩ := hh
 simp only at s1 s2 s3
 have p1 : putL (valV (swC c d r fl tg) d0 r0) d0 nd.toNat (movL (swP c d r fl tg) d) = putL (valV c d0 r0) d0 nd.toNat d := by
  unfold putL movL
  rw [List.map_map]
  congr 1
  exact List.map_congr_left fun x hx => v1 x hx
 have p2 : putL (valV (swC c d r fl tg) d0 r0) r0 nr.toNat (movL (swP c d r fl tg) r) = putL (valV c d0 r0) r0 nr.toNat r := by
  unfold putL movL
  rw [List.map_map]
  congr 1
  exact List.map_congr_left fun x hx => v2 x hx
 have p3 : leftF (valV (swC c d r fl tg) d0 r0) (movO (swP c d r fl tg) fl) f0 = leftF (valV c d0 r0) fl f0 := by
  unfold leftF
  by_cases e : fl = -1
  ·rw [if_pos (by unfold movO; rw [if_pos e]), if_pos e]
  ·obtain ⟨g1, g2⟩ := v3 fl (by simp) e
   rw [if_neg g1, if_neg e, g2]
 have p4 : ∀ nx br tk F, leftP (valV (swC c d r fl tg) d0 r0) nx (movO (swP c d r fl tg) tg) br tk F = leftP (valV c d0 r0) nx tg br tk F := fun nx br tk F => by
  unfold leftP
  by_cases e : tg = -1
  ·rw [show movO (swP c d r fl tg) tg = -1 by unfold movO; rw [if_pos e], e]; rfl
  ·obtain ⟨g1, g2⟩ := v3 tg (by simp) e
   rw [if_neg g1, if_neg e, g2]
 have len1 : (s.d.length : Int) = (d0.length : Int) - nd + (d.length : Int) := by rw [s1, putL_len (by omega)]; omega
 have len2 : (s.r.length : Int) = (r0.length : Int) - nr + (r.length : Int) := by rw [s2, putL_len (by omega)]; omega
 have hh := low_high (pc := pc) hok l.length (Nat.le_refl _)
 rw [hw] at hh
 simp only at hh
 exact ⟨by rw [p1]; exact s1, by rw [p2]; exact s2, by rw [p3]; exact s3, by rw [p4]; exact hlast s hs, by omega, by omega, len1, len2⟩
end Ls
end Go.Proofs.Ytgpphhdndmdlgaa
