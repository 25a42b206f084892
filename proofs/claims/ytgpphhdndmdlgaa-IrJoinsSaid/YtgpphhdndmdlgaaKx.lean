/- Chapter 19: a block that is lowered, and its instructions. -/
import Derived.Test.YtgpphhdndmdlgaaKw
namespace Go.Proofs.Ytgpphhdndmdlgaa
open Go Go.Ev Go.RowKit
set_option linter.unusedVariables false
set_option linter.unusedSimpArgs false
set_option maxRecDepth 100000
namespace Ls
theorem nd_mono {op n nx : Int} {w : LW} (hp : plainB op = true) : w.nd ≤ (oneB op n nx w).nd ∧ w.nr ≤ (oneB op n nx w).nr := by
 obtain ⟨c, d, r, nd, hd', nr, hr', fl, tg, br⟩ := w
 obtain ⟨c1, d1, m1, n1, hq⟩ := popE 1 c d nd
 obtain ⟨c2, d2, m2, n2, hq2⟩ := popE 1 c1 d1 m1
 obtain ⟨cr, r1, mr, nr1, hqr⟩ := popE 2 c r nr
 have k1 := popC_len hq; have k2 := popC_len hq2; have k3 := popC_len hqr
 rcases op_cases hp with ho | ho | ho | ho | ho | ho | ho | ho | ho | ho | ho | ho | ho | ho | ho | ho
 ·rw [one_nop (.inl ho)]; simp
 ·rw [one_lit (.inl ho)]; simp
 ·rw [one_lit (.inr ho)]; simp
 ·rw [one_dup ho hq]; simp; omega
 ·rw [one_drop ho hq]; simp; omega
 ·rw [one_swap ho hq hq2]; simp; omega
 ·rw [one_over ho hq hq2]; simp; omega
 ·rw [one_tor ho hq]; simp; omega
 ·rw [one_fromr ho hqr]; simp; omega
 ·rw [one_alu ho hq hq2]; simp; omega
 ·rw [one_cmp ho hq hq2]; simp; omega
 ·rw [one_nop (.inr ho)]; simp
 ·rw [one_jcc ho]; simp
 ·rw [one_call ho]; simp
 ·rw [one_ret ho hqr]; simp; omega
 ·rw [one_jmpi ho hq]; simp; omega
def FitW (w : LW) (D R : Nat) : Prop := w.nd ≤ (D : Int) ∧ (D : Int) + w.hd ≤ 16 ∧ w.nr ≤ (R : Int) ∧ (R : Int) + w.hr ≤ 16
theorem ends_no {op : Int} (h : endsB op = false) : ¬ (32 ≤ op ∧ op ≤ 40) := fun q => by unfold endsB at h; simp at h; omega
theorem hB_no {op f : Int} (h : ¬ (33 ≤ op ∧ op ≤ 37)) : hB op f = false := by
 unfold hB
 rw [if_neg (by omega), if_neg (by omega), if_neg (by omega), if_neg (by omega), if_neg (by omega)]
theorem low_run {l : List (Int × Int)} {pc : Int} (hok : OkIns l) (hn : ∀ x ∈ l, 0 ≤ x.2 ∧ x.2 < 4294967296) {d0 r0 : List Int} {f0 : Int} (hd : d0.length ≤ 16) (hr : r0.length ≤ 16) : ∀ k, k ≤ l.length →
    (∀ s, runM l ⟨d0, r0, f0, pc⟩ k = some s → Sim (lowW l pc k) d0 r0 f0 s.d s.r s.fl ∧ (k < l.length → s.pc = lowPc l pc k)) ∧ ((runM l ⟨d0, r0, f0, pc⟩ k).isSome = true ↔ FitW (lowW l pc k) d0.length r0.length) := by
 intro k
 induction k with
 | zero =>
  intro _
  refine ⟨fun s hs => ?_, ?_⟩
  ·cases hs
   refine ⟨⟨?_, ?_, ?_, ?_, ?_⟩, fun _ => rfl⟩
   ·simp [lowW, low0, putL]
   ·simp [lowW, low0, putL]
   ·simp [lowW, low0, leftF]
   ·simp [lowW, low0]
   ·simp [lowW, low0]
  ·simp [runM, FitW, lowW, low0]; omega
 | succ k ih =>
  intro hk
  obtain ⟨ih1, ih2⟩ := ih (by omega)
  obtain ⟨hi, hz⟩ := low_inv (pc := pc) hok hn k (by omega)
  have hx : l[k]? = some (l[k]'(by omega)) := List.getElem?_eq_getElem _
  generalize l[k]'(by omega) = x at hx
  obtain ⟨q1, q2, q3⟩ := hok.ok k x hx
  have hw := lowW_succ (pc := pc) hx
  have hpx := lowPc_succ (pc := pc) hx
  have hrun := runM_succ (s := ⟨d0, r0, f0, pc⟩) hx
  generalize hW : lowW l pc k = W at *
  generalize hE : IntKind.u32.wrap (lowPc l pc k + sizeZ x.1) = E at *
  obtain ⟨m1, m2⟩ := nd_mono (n := x.2) (nx := E) (w := W) q2
  obtain ⟨g1, g2⟩ := hd_le (n := x.2) (nx := E) (w := W) q2
  have hfit : FitW (lowW l pc (k + 1)) d0.length r0.length ↔ FitW W d0.length r0.length ∧ ((oneB x.1 x.2 E W).nd ≤ (d0.length : Int) ∧ (oneB x.1 x.2 E W).nr ≤ (r0.length : Int) ∧ (d0.length : Int) - (oneB x.1 x.2 E W).nd + ((oneB x.1 x.2 E W).d.length : Int) ≤ 16 ∧ (r0.length : Int) - (oneB x.1 x.2 E W).nr + ((oneB x.1 x.2 E W).r.length : Int) ≤ 16) := by
   rw [hw]
   unfold FitW
   rw [g1, g2]
   show ((oneB x.1 x.2 E W).nd ≤ _ ∧ _ ∧ (oneB x.1 x.2 E W).nr ≤ _ ∧ _) ↔ _
   omega
  cases hr0 : runM l ⟨d0, r0, f0, pc⟩ k with
  | none =>
   rw [hr0] at hrun
   rw [hrun]
   refine ⟨fun s hs => (by cases hs), ?_⟩
   have : ¬ FitW W d0.length r0.length := fun h => by have := ih2.2 h; rw [hr0] at this; cases this
   rw [hfit]
   exact ⟨fun h => (by cases h), fun h => absurd h.1 this⟩
  | some t =>
   rw [hr0] at hrun
   obtain ⟨hs, hpc⟩ := ih1 t hr0
   have hf : FitW W d0.length r0.length := ih2.1 (by rw [hr0]; rfl)
   have ld : t.d.length = d0.length - W.nd.toNat + W.d.length := by rw [hs.d, putL_len (by have := hs.nd; have := hi.nd; omega)]
   have lr : t.r.length = r0.length - W.nr.toNat + W.r.length := by rw [hs.r, putL_len (by have := hs.nr; have := hi.nr; omega)]
   have hcan := can_iff (op := x.1) (n := x.2) (nx := E) (w := W) q2 hi.nd.1 hi.nr.1 hs.nd hs.nr
   rw [← ld, ← lr] at hcan
   have e2 : (runM l ⟨d0, r0, f0, pc⟩ (k + 1)) = if canM x.1 t.d.length t.r.length = true then some (doM x.1 x.2 E t) else none := by
    rw [hrun]
    show stepM x t = _
    unfold stepM
    rw [hpc (by omega), hE]
   rw [e2]
   by_cases hc : canM x.1 t.d.length t.r.length = true
   ·rw [if_pos hc]
    refine ⟨fun s hs' => ?_, ?_⟩
    ·cases hs'
     have h1 := (sim_one (n := x.2) (nx := E) q2 hs hi.d hi.r hi.nd.1 hi.nr.1 hi.fl hc).1
     refine ⟨?_, fun hlt => ?_⟩
     ·rw [hw]
      exact ⟨h1.d, h1.r, h1.fl, h1.nd, h1.nr⟩
     ·have := ends_no (q3 hlt)
      rw [hpx]
      show doPc x.1 x.2 E t.d t.r t.fl = E
      unfold doPc
      rw [if_neg (by omega), if_neg (by omega), hB_no (by omega), if_neg (by simp; omega)]
    ·rw [hfit]
     exact ⟨fun _ => ⟨hf, hcan.1 hc⟩, fun _ => rfl⟩
   ·rw [if_neg hc]
    refine ⟨fun s hs' => (by cases hs'), ?_⟩
    rw [hfit]
    exact ⟨fun h => (by cases h), fun h => absurd (hcan.2 h.2) hc⟩
theorem low_last {l : List (Int × Int)} {pc : Int} (hok : OkIns l) (hn : ∀ x ∈ l, 0 ≤ x.2 ∧ x.2 < 4294967296) {d0 r0 : List Int} {f0 : Int} (hd : d0.length ≤ 16) (hr : r0.length ≤ 16) {s : Ms} (hs : runM l ⟨d0, r0, f0, pc⟩ l.length = some s) :
    s.pc = leftP (valV (lowW l pc l.length).c d0 r0) (lowNext l (lowPc l pc l.length)) (lowW l pc l.length).tg (lowW l pc l.length).br (lowTaken l (lowPc l pc l.length) (lowW l pc l.length).br) s.fl := by
 have h1 := hok.one
 obtain ⟨k, hk⟩ : ∃ k, l.length = k + 1 := ⟨l.length - 1, by omega⟩
 obtain ⟨ih1, ih2⟩ := low_run (pc := pc) (f0 := f0) hok hn hd hr k (by omega)
 obtain ⟨hi, hz⟩ := low_inv (pc := pc) hok hn k (by omega)
 obtain ⟨z1, z2⟩ := hz (by omega)
 have hx : l[k]? = some (l[k]'(by omega)) := List.getElem?_eq_getElem _
 generalize l[k]'(by omega) = x at hx
 obtain ⟨q1, q2, q3⟩ := hok.ok k x hx
 have hw := lowW_succ (pc := pc) hx
 have hpx := lowPc_succ (pc := pc) hx
 have hrun := runM_succ (s := ⟨d0, r0, f0, pc⟩) hx
 have hlast : l[l.length - 1]? = some x := by rw [hk]; exact hx
 have hN : lowNext l (lowPc l pc l.length) = if x.1 = 32 ∨ x.1 = 38 then IntKind.u32.wrap (lowPc l pc l.length + signZ x.2) else lowPc l pc l.length := by unfold lowNext; rw [hlast]
 have hT : ∀ br, lowTaken l (lowPc l pc l.length) br = if x.1 = 32 ∨ x.1 = 38 then 0 else if br = 0 then 0 else IntKind.u32.wrap (lowPc l pc l.length + signZ x.2) := fun br => by unfold lowTaken; rw [hlast]
 rw [hN, hT]
 rw [hk] at hs ⊢
 generalize hW : lowW l pc k = W at *
 rw [hpx]
 generalize hE : IntKind.u32.wrap (lowPc l pc k + sizeZ x.1) = E at *
 rw [hrun] at hs
 cases hr0 : runM l ⟨d0, r0, f0, pc⟩ k with
 | none => rw [hr0] at hs; cases hs
 | some t =>
  rw [hr0] at hs
  obtain ⟨hsim, hpc⟩ := ih1 t hr0
  have e2 : stepM x t = if canM x.1 t.d.length t.r.length = true then some (doM x.1 x.2 E t) else none := by
   unfold stepM
   rw [hpc (by omega), hE]
  replace hs : stepM x t = some s := hs
  rw [e2] at hs
  by_cases hc : canM x.1 t.d.length t.r.length = true
  ·rw [if_pos hc] at hs
   cases hs
   obtain ⟨_, ⟨t1, t2, t3⟩, t4⟩ := sim_one (n := x.2) (nx := E) q2 hsim hi.d hi.r hi.nd.1 hi.nr.1 hi.fl hc
   rw [hw]
   have eb : (oneP x.1 x.2 E W).br = if 33 ≤ x.1 ∧ x.1 ≤ 37 then x.1 else 0 := by show (oneB x.1 x.2 E W).br = _; rw [t4, z1]
   have et : (oneP x.1 x.2 E W).tg = (oneB x.1 x.2 E W).tg := rfl
   have ec : (oneP x.1 x.2 E W).c = (oneB x.1 x.2 E W).c := rfl
   rw [eb, et, ec]
   show doPc x.1 x.2 E t.d t.r t.fl = leftP _ _ _ _ _ (doFl x.1 t.d t.fl)
   unfold doPc leftP
   by_cases o39 : x.1 = 39
   ·obtain ⟨a1, a2⟩ := t1 o39
    rw [if_pos o39, if_neg (c := 33 ≤ x.1 ∧ x.1 ≤ 37) (by omega), if_neg (by simp [hK]), if_neg (by omega), a2]
   rw [if_neg o39]
   by_cases o40 : x.1 = 40
   ·obtain ⟨a1, a2⟩ := t2 o40
    rw [if_pos o40, if_neg (c := 33 ≤ x.1 ∧ x.1 ≤ 37) (by omega), if_neg (by simp [hK]), if_neg (by omega), a2]
   rw [if_neg o40, t3 o39 o40, z2]
   by_cases o32 : x.1 = 32 ∨ x.1 = 38
   ·rw [if_pos (by omega), if_neg (c := 33 ≤ x.1 ∧ x.1 ≤ 37) (by omega), if_neg (by simp [hK]), if_pos rfl, if_pos o32]
   rw [if_neg o32, if_neg o32]
   by_cases oj : 33 ≤ x.1 ∧ x.1 ≤ 37
   ·rw [if_pos oj, if_neg (c := x.1 = 0) (by omega)]
    have : doFl x.1 t.d t.fl = t.fl := by unfold doFl; rw [if_neg (by omega)]
    rw [this]
    by_cases hb : hB x.1 t.fl = true
    ·rw [if_pos (by simp [hb]), if_pos ⟨by simp [hK, oj], hb⟩]
    ·rw [if_neg (by simp [hb]; omega), if_neg (fun h => hb h.2), if_pos rfl]
   ·rw [if_neg oj, hB_no oj, if_neg (by simp; omega), if_neg (by simp [hK]), if_pos rfl]
  ·rw [if_neg hc] at hs; cases hs
end Ls
end Go.Proofs.Ytgpphhdndmdlgaa
