/- Chapter 21: values that are read by a plan. -/
import Derived.Test.YtegjicaoemhhlaaJs
namespace Go.Proofs.Ytegjicaoemhhlaa
open Go Go.Ev Go.RowKit
set_option linter.unusedVariables false
set_option linter.unusedSimpArgs false
set_option maxRecDepth 100000
namespace Ls
structure GP (V rg sl : List Int) (mh mk : List (Int × Int)) (vm : Nat) : Prop where
 v : V = rdV rg sl mh mk
 m : vm = V.length
 lr : rg.length = vm
 ls : sl.length = vm
theorem GP.of {rg sl : List Int} {mh mk : List (Int × Int)} {vm : Nat} (h : rg.length = vm) (k : sl.length = vm) : GP (rdV rg sl mh mk) rg sl mh mk vm := ⟨rfl, by simp [h], h, k⟩
theorem rd_reg {rg sl : List Int} {mh mk : List (Int × Int)} {n : Nat} {x : Int} (hx : rg[n]? = some x) (h : x ≠ -1) : lookL mh x = (rdV rg sl mh mk).getD n 0 := by
 rw [rdV_at (List.getElem?_eq_some_iff.1 hx).1]; unfold rdP; rw [getD_of hx, if_neg h]
theorem rd_slot {rg sl : List Int} {mh mk : List (Int × Int)} {n : Nat} {x y : Int} (hx : rg[n]? = some x) (hy : sl[n]? = some y) (h : x = -1) : lookL mk y = (rdV rg sl mh mk).getD n 0 := by
 rw [rdV_at (List.getElem?_eq_some_iff.1 hx).1]; unfold rdP; rw [getD_of hx, getD_of hy, if_pos h]
def evM (c : List II) (d r rg sl : List Int) : Nat → List (Int × Int) × List (Int × Int)
 | 0 => ([], [])
 | k + 1 => match c[k]? with
  | some x => (stepH rg sl k (mkV d r (rdV rg sl (evM c d r rg sl k).1 (evM c d r rg sl k).2) x) (evM c d r rg sl k).1, stepK rg sl k (mkV d r (rdV rg sl (evM c d r rg sl k).1 (evM c d r rg sl k).2) x) (evM c d r rg sl k).2)
  | none => evM c d r rg sl k
theorem evM_succ {c : List II} {d r rg sl : List Int} {k : Nat} {x : II} (h : c[k]? = some x) : evM c d r rg sl (k + 1) = (stepH rg sl k (mkV d r (rdV rg sl (evM c d r rg sl k).1 (evM c d r rg sl k).2) x) (evM c d r rg sl k).1, stepK rg sl k (mkV d r (rdV rg sl (evM c d r rg sl k).1 (evM c d r rg sl k).2) x) (evM c d r rg sl k).2) := by
 show (match c[k]? with | some x => _ | none => _) = _; rw [h]
def evW (c : List II) (d r rg sl : List Int) (k : Nat) : List Int := rdV rg sl (evM c d r rg sl k).1 (evM c d r rg sl k).2
theorem evM_32 {c : List II} {d r rg sl : List Int} (hd : V32 d) (hr : V32 r) (hi : ∀ x ∈ c, 0 ≤ x.2.2.2.2 ∧ x.2.2.2.2 < 4294967296) : ∀ k, M32 (evM c d r rg sl k).1 ∧ M32 (evM c d r rg sl k).2
 | 0 => ⟨M32.nil, M32.nil⟩
 | k + 1 => by
  obtain ⟨h1, h2⟩ := evM_32 (rg := rg) (sl := sl) hd hr hi k
  unfold evM
  split
  ·rename_i x hx
   have hv := mkV_rng hd hr (rdV_32 (rg := rg) (sl := sl) h1 h2) (hi x (List.mem_of_getElem? hx))
   refine ⟨?_, ?_⟩
   ·dsimp only; unfold stepH; split
    ·exact h1
    ·exact h1.upd hv
   ·dsimp only; unfold stepK; split
    ·exact h2.upd hv
    ·exact h2
  ·exact ⟨h1, h2⟩
theorem evW_32 {c : List II} {d r rg sl : List Int} (hd : V32 d) (hr : V32 r) (hi : ∀ x ∈ c, 0 ≤ x.2.2.2.2 ∧ x.2.2.2.2 < 4294967296) (k : Nat) : V32 (evW c d r rg sl k) := rdV_32 (evM_32 hd hr hi k).1 (evM_32 hd hr hi k).2
@[simp] theorem evW_len (c : List II) (d r rg sl : List Int) (k : Nat) : (evW c d r rg sl k).length = rg.length := by simp [evW]
theorem evM_reg {c : List II} {d r rg sl : List Int} {k : Nat} {x : II} {y : Int} (h : c[k]? = some x) (hy : rg[k]? = some y) (hne : y ≠ -1) :
    updL (evM c d r rg sl k).1 y (mkV d r (evW c d r rg sl k) (x.1, x.2.1, x.2.2.1, x.2.2.2.1, x.2.2.2.2)) = (evM c d r rg sl (k + 1)).1 ∧ (evM c d r rg sl k).2 = (evM c d r rg sl (k + 1)).2 := by
 rw [evM_succ h]; unfold stepH stepK evW; rw [getD_of hy, if_neg hne, if_neg hne]; exact ⟨rfl, rfl⟩
theorem evM_slot {c : List II} {d r rg sl : List Int} {k : Nat} {x : II} {y z : Int} (h : c[k]? = some x) (hy : rg[k]? = some y) (hz : sl[k]? = some z) (he : y = -1) :
    updL (evM c d r rg sl k).2 z (mkV d r (evW c d r rg sl k) (x.1, x.2.1, x.2.2.1, x.2.2.2.1, x.2.2.2.2)) = (evM c d r rg sl (k + 1)).2 ∧ (evM c d r rg sl k).1 = (evM c d r rg sl (k + 1)).1 := by
 rw [evM_succ h]; unfold stepH stepK evW; rw [getD_of hy, getD_of hz, if_pos he, if_pos he]; exact ⟨rfl, rfl⟩
noncomputable def f34b : Code := Try.f34.body.getD .skip
theorem f34_body : Try.f34.body = some f34b := by kernel_rfl
theorem f34_fn : T16.fn 34 = some Try.f34 := by kernel_rfl
theorem get_s {V : List Int} {n vm : Nat} {rg sl : List Int} {mh mk : List (Int × Int)} {slots : Int} {kc kd : Nat} (hn : n < V.length) (hl : V.length < 1000) (hvm : GP V rg sl mh mk vm) : SCall Try.prog T16 34 #[.int .i64 (n : Int), .pointer (some ⟨0, 0, none⟩), .pointer (some ⟨3, 0, none⟩), .pointer (some ⟨4, 0, none⟩)] (hq [some ⟨[Value.slice (some ⟨1, 0, none⟩) vm kc, .slice (some ⟨2, 0, none⟩) vm kd, .int .i64 slots], 38, false⟩, (inCo rg false), (inCo sl false), some ⟨[Value.map (some 5)], 75, false⟩, some ⟨[Value.map (some 6)], 75, false⟩, (mmCo mh false), (mmCo mk false)]) fun v h => v = .int .u32 (V.getD n 0) ∧ h = hq [some ⟨[Value.slice (some ⟨1, 0, none⟩) vm kc, .slice (some ⟨2, 0, none⟩) vm kd, .int .i64 slots], 38, false⟩, (inCo rg false), (inCo sl false), some ⟨[Value.map (some 5)], 75, false⟩, some ⟨[Value.map (some 6)], 75, false⟩, (mmCo mh false), (mmCo mk false)] := by
 have hvl := hvm.m
 have hlr := hvm.lr
 have hls := hvm.ls
 obtain ⟨a1, ha1⟩ : ∃ x_, (rg)[n]? = some x_ := ⟨_, List.getElem?_eq_getElem (by omega)⟩
 by_cases h1 : a1 = -1
 ·skip
  refine scall_sd 26 _ 7 kr f34_fn f34_body rfl rfl rfl fun X hX => ?_
  refine sd_run 11 (sd_ix 9 (.pointer (some ⟨1, 0 + n * 1, none⟩)) n vm kr kr kr (by first | omega | (simp; done) | (simp; omega)) (sd_ld 10 (.int .i64 a1) 3 (.pointer (some ⟨1, 0 + n * 1, none⟩)) kr kr kr (ld_cell (l := rg) (e := 3) (ro := false) (k := n) (j := 0) inC_len kr kr kr ha1 rfl) (sd_run 1 (sd_see 11 (.bool false) (see_bool (x := ((a1 : Int) != (-1))) kr (bne_eq_false_iff_eq.2 h1)) (sd_run 11 (sd_ix 23 (.pointer (some ⟨2, 0 + n * 1, none⟩)) n vm kr kr kr (by first | omega | (simp; done) | (simp; omega)) ?_))))))
  obtain ⟨a2, ha2⟩ : ∃ x_, (sl)[n]? = some x_ := ⟨_, List.getElem?_eq_getElem (by omega)⟩
  refine sd_ld 24 (.int .i64 a2) 3 (.pointer (some ⟨2, 0 + n * 1, none⟩)) kr kr kr (ld_cell (l := sl) (e := 3) (ro := false) (k := n) (j := 0) inC_len kr kr kr ha2 rfl) (sd_lk 25 (.int .u32 (lookL mk a2)) 75 false (.map (some 6)) (.int .i64 a2) kr kr kr (alook_tab (l := mk) (e := 75) (ro := false) (enc := mmC) kr rfl kr) (sd_run 4 ?_))
  refine sdY (.int .u32 (lookL mk a2)) hX [some ⟨[Value.slice (some ⟨1, 0, none⟩) vm kc, .slice (some ⟨2, 0, none⟩) vm kd, .int .i64 slots], 38, false⟩, (inCo rg false), (inCo sl false), some ⟨[Value.map (some 5)], 75, false⟩, some ⟨[Value.map (some 6)], 75, false⟩, (mmCo mh false), (mmCo mk false)] i7_ ⟨brn, inC_b, inC_b, brn, brn, mmC_b, mmC_b, ⟨⟩⟩ ⟨(by congr 1; rw [hvm.v]; exact rd_slot ha1 ha2 h1), rfl⟩
 ·skip
  refine scall_sd 26 _ 7 kr f34_fn f34_body rfl rfl rfl fun X hX => ?_
  refine sd_run 11 (sd_ix 9 (.pointer (some ⟨1, 0 + n * 1, none⟩)) n vm kr kr kr (by first | omega | (simp; done) | (simp; omega)) (sd_ld 10 (.int .i64 a1) 3 (.pointer (some ⟨1, 0 + n * 1, none⟩)) kr kr kr (ld_cell (l := rg) (e := 3) (ro := false) (k := n) (j := 0) inC_len kr kr kr ha1 rfl) (sd_run 1 (sd_see 11 (.bool true) (see_bool (x := ((a1 : Int) != (-1))) kr (bne_iff_ne.2 h1)) (sd_run 9 (sd_ix 16 (.pointer (some ⟨1, 0 + n * 1, none⟩)) n vm kr kr kr (by first | omega | (simp; done) | (simp; omega)) (sd_ld 17 (.int .i64 a1) 3 (.pointer (some ⟨1, 0 + n * 1, none⟩)) kr kr kr (ld_cell (l := rg) (e := 3) (ro := false) (k := n) (j := 0) inC_len kr kr kr ha1 rfl) ?_)))))))
  refine sd_lk 18 (.int .u32 (lookL mh a1)) 75 false (.map (some 5)) (.int .i64 a1) kr kr kr (alook_tab (l := mh) (e := 75) (ro := false) (enc := mmC) kr rfl kr) (sd_run 5 ?_)
  refine sdY (.int .u32 (lookL mh a1)) hX [some ⟨[Value.slice (some ⟨1, 0, none⟩) vm kc, .slice (some ⟨2, 0, none⟩) vm kd, .int .i64 slots], 38, false⟩, (inCo rg false), (inCo sl false), some ⟨[Value.map (some 5)], 75, false⟩, some ⟨[Value.map (some 6)], 75, false⟩, (mmCo mh false), (mmCo mk false)] i7_ ⟨brn, inC_b, inC_b, brn, brn, mmC_b, mmC_b, ⟨⟩⟩ ⟨(by congr 1; rw [hvm.v]; exact rd_reg ha1 h1), rfl⟩
end Ls
end Go.Proofs.Ytegjicaoemhhlaa
