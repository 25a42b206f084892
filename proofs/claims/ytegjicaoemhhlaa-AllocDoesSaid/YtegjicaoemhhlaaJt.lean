/- Chapter 21: values that are read by a plan. -/
import Derived.Test.YtegjicaoemhhlaaJs
set_option linter.unusedVariables false
set_option linter.unusedSimpArgs false
namespace Go.Proofs.Ytegjicaoemhhlaa
open Go Go.Ev Go.RowKit
set_option maxRecDepth 100000
namespace Ls
structure GP (V rg sl : List Int) (mh mk : List (Int × Int)) (vm : Nat) : Prop where
 v : V = rdV rg sl mh mk
 m : vm = V.length
 lr : rg.length = vm
 ls : sl.length = vm
theorem GP.of {rg sl : List Int} {mh mk : List (Int × Int)} {vm : Nat} (h : rg.length = vm) (k : sl.length = vm) : GP (rdV rg sl mh mk) rg sl mh mk vm := ⟨rfl, by simp [h], h, k⟩
theorem rd_reg {rg sl : List Int} {mh mk : List (Int × Int)} {n : Nat} {x : Int} (hx : rg[n]? = some x) (h : x ≠ -1) : lookL mh x = (rdV rg sl mh mk).getD n 0 := by
 rw [rdV_at (List.getElem?_eq_some_iff.1 hx).1]; unfold rdP; rw [getD_of hx, if_neg h]
theorem rd_slot {rg sl : List Int} {mh mk : List (Int × Int)} {n : Nat} {x y : Int} (hx : rg[n]? = some x) (hy : sl[n]? = some y) (h : x = -1) : lookL mk y = (rdV rg sl mh mk).getD n 0 := by
 rw [rdV_at (List.getElem?_eq_some_iff.1 hx).1]; unfold rdP; rw [getD_of hx, getD_of hy, if_pos h]
def evM (c : List II) (d r rg sl : List Int) : Nat → List (Int × Int) × List (Int × Int)
 | 0 => ([], [])
 | k + 1 => match c[k]? with
  | some x => (stepH rg sl k (mkV d r (rdV rg sl (evM c d r rg sl k).1 (evM c d r rg sl k).2) x) (evM c d r rg sl k).1, stepK rg sl k (mkV d r (rdV rg sl (evM c d r rg sl k).1 (evM c d r rg sl k).2) x) (evM c d r rg sl k).2)
  | none => evM c d r rg sl k
theorem evM_succ {c : List II} {d r rg sl : List Int} {k : Nat} {x : II} (h : c[k]? = some x) : evM c d r rg sl (k + 1) = (stepH rg sl k (mkV d r (rdV rg sl (evM c d r rg sl k).1 (evM c d r rg sl k).2) x) (evM c d r rg sl k).1, stepK rg sl k (mkV d r (rdV rg sl (evM c d r rg sl k).1 (evM c d r rg sl k).2) x) (evM c d r rg sl k).2) := by
 show (match c[k]? with | some x => _ | none => _) = _; rw [h]
def evW (c : List II) (d r rg sl : List Int) (k : Nat) : List Int := rdV rg sl (evM c d r rg sl k).1 (evM c d r rg sl k).2
theorem evM_32 {c : List II} {d r rg sl : List Int} (hd : V32 d) (hr : V32 r) (hi : ∀ x ∈ c, 0 ≤ x.2.2.2.2 ∧ x.2.2.2.2 < 4294967296) : ∀ k, M32 (evM c d r rg sl k).1 ∧ M32 (evM c d r rg sl k).2
 | 0 => ⟨M32.nil, M32.nil⟩
 | k + 1 => by
  obtain ⟨h1, h2⟩ := evM_32 (rg := rg) (sl := sl) hd hr hi k;unfold evM;split
  ·rename_i x hx;have hv := mkV_rng hd hr (rdV_32 (rg := rg) (sl := sl) h1 h2) (hi x (List.mem_of_getElem? hx));refine ⟨?_, ?_⟩
   ·dsimp only; unfold stepH; split
    ·exact h1
    ·exact h1.upd hv
   ·dsimp only; unfold stepK; split
    ·exact h2.upd hv
    ·exact h2
  ·exact ⟨h1, h2⟩
theorem evW_32 {c : List II} {d r rg sl : List Int} (hd : V32 d) (hr : V32 r) (hi : ∀ x ∈ c, 0 ≤ x.2.2.2.2 ∧ x.2.2.2.2 < 4294967296) (k : Nat) : V32 (evW c d r rg sl k) := rdV_32 (evM_32 hd hr hi k).1 (evM_32 hd hr hi k).2
@[simp] theorem evW_len (c : List II) (d r rg sl : List Int) (k : Nat) : (evW c d r rg sl k).length = rg.length := by simp [evW]
theorem evM_reg {c : List II} {d r rg sl : List Int} {k : Nat} {x : II} {y : Int} (h : c[k]? = some x) (hy : rg[k]? = some y) (hne : y ≠ -1) :
    updL (evM c d r rg sl k).1 y (mkV d r (evW c d r rg sl k) (x.1, x.2.1, x.2.2.1, x.2.2.2.1, x.2.2.2.2)) = (evM c d r rg sl (k + 1)).1 ∧ (evM c d r rg sl k).2 = (evM c d r rg sl (k + 1)).2 := by
 rw [evM_succ h]; unfold stepH stepK evW; rw [getD_of hy, if_neg hne, if_neg hne]; exact ⟨rfl, rfl⟩
theorem evM_slot {c : List II} {d r rg sl : List Int} {k : Nat} {x : II} {y z : Int} (h : c[k]? = some x) (hy : rg[k]? = some y) (hz : sl[k]? = some z) (he : y = -1) :
    updL (evM c d r rg sl k).2 z (mkV d r (evW c d r rg sl k) (x.1, x.2.1, x.2.2.1, x.2.2.2.1, x.2.2.2.2)) = (evM c d r rg sl (k + 1)).2 ∧ (evM c d r rg sl k).1 = (evM c d r rg sl (k + 1)).1 := by
 rw [evM_succ h]; unfold stepH stepK evW; rw [getD_of hy, getD_of hz, if_pos he, if_pos he]; exact ⟨rfl, rfl⟩
noncomputable def f34b : Code := Try.f34.body.getD .skip
theorem get_s {V : List Int} {n vm : Nat} {rg sl : List Int} {mh mk : List (Int × Int)} {slots : Int} {kc kd : Nat} (hn : n < V.length) (hl : V.length < 1000) (hvm : GP V rg sl mh mk vm) : SCall Try.prog T16 34 #[jI (n : Int), pT 0 0, pT 3 0, pT 4 0] (hq [oB 38 [sK 1 vm kc, sK 2 vm kd, jI slots], (inF rg), (inF sl), oB 75 [Value.map (some 5)], oB 75 [Value.map (some 6)], (mmF mh), (mmF mk)]) fun v h => v = jU (V.getD n 0) ∧ h = hq [oB 38 [sK 1 vm kc, sK 2 vm kd, jI slots], (inF rg), (inF sl), oB 75 [Value.map (some 5)], oB 75 [Value.map (some 6)], (mmF mh), (mmF mk)] := by
 have hvl := hvm.m;have hlr := hvm.lr;have hls := hvm.ls;obtain ⟨a1, ha1⟩ := zR rg n
 by_cases h1 : a1 = -1
 ·refine zS Try.f34 f34b 26 7 fun X hX => ?_
  refine zX 11 9 (pT 1 (0 + n * 1)) n vm (zL 0 10 (jI a1) 3 1 0 3 false inC_len ha1 (sd_run 1 (sd_see 11 (.bool false) (see_bool (x := ((a1 : Int) != (-1))) kr (bne_eq_false_iff_eq.2 h1)) (zX 11 23 (pT 2 (0 + n * 1)) n vm ?_))));obtain ⟨a2, ha2⟩ := zR sl n;refine zL 0 24 (jI a2) 3 2 0 3 false inC_len ha2 (sd_lk 25 (jU (lookL mk a2)) 75 false (.map (some 6)) (jI a2) kr kr kr (alook_tab (l := mk) (e := 75) (ro := false) (enc := mmC) kr rfl kr) (sd_run 4 ?_));refine zY (jU (lookL mk a2)) hX i7_ ⟨(by congr 1; rw [hvm.v]; exact rd_slot ha1 ha2 h1), rfl⟩
 ·refine zS Try.f34 f34b 26 7 fun X hX => ?_
  refine zX 11 9 (pT 1 (0 + n * 1)) n vm (zL 0 10 (jI a1) 3 1 0 3 false inC_len ha1 (sd_run 1 (sd_see 11 (.bool true) (see_bool (x := ((a1 : Int) != (-1))) kr (bne_iff_ne.2 h1)) (zX 9 16 (pT 1 (0 + n * 1)) n vm (zL 0 17 (jI a1) 3 1 0 3 false inC_len ha1 ?_)))));refine sd_lk 18 (jU (lookL mh a1)) 75 false (.map (some 5)) (jI a1) kr kr kr (alook_tab (l := mh) (e := 75) (ro := false) (enc := mmC) kr rfl kr) (sd_run 5 ?_);refine zY (jU (lookL mh a1)) hX i7_ ⟨(by congr 1; rw [hvm.v]; exact rd_reg ha1 h1), rfl⟩
end Ls
end Go.Proofs.Ytegjicaoemhhlaa
