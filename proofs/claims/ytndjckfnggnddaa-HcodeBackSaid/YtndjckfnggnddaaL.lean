/- HcodeCuts answers true for every input, and leaves its arguments as they were: code that is cut off within an instruction is refused; cut off between two it is the first ones. No condition. -/
import Derived.Test.YtndjckfnggnddaaI
import Derived.WalkKit
import Derived.ProofKit
import Derived.OpenShut
import Derived.Deep.Slices
import Derived.Deep.Fields
import Derived.ChangeSame
import Derived.WideKeyArgs
namespace Go.Proofs.Ytndjckfnggnddaa
open Go.ChangeShapes Go.WideShapes Go.ChangeAt Go.RowKit Go.Deep
set_option linter.unusedVariables false
set_option linter.unusedSimpArgs false
section
variable {H : Type} {enc : TypeId × Value → H} {P : Program} {w : World} {base : Nat} {spare : Nat → Bool} {held : Bool}
theorem open_slice_fields {t e : TypeId} {fs : Array Field} {fuel : Nat} {cs : List Value} {x : DataW H × List MemPlace} (ht : P.underlying t = some (.slice e)) (he : P.underlying e = some (.struct fs))
    (hone : oneCellFields P fs = true) (hC : P.cellsOf e = fs.size) (h : DataW.trod enc P w base spare held fuel t cs = some x) :
    (cs = [.slice none 0 0] ∧ x = (.nil, [])) ∨
    ∃ (a : Addr) (len cap m : Nat) (D : Nat → DataW H) (Pl : Nat → List MemPlace), cs = [.slice (some a) len cap] ∧ base ≤ a.block ∧ len ≤ cap ∧ cap ≤ maxLen ∧ m = (if spare a.block then cap else len) ∧
      x = (.slice ((List.range len).map D) ((List.range (m - len)).map fun j => D (len + j)), MemPlace.row a (m * fs.size) ++ (List.range m).flatMap Pl) ∧
      ∀ i, i < m → ∃ (ys : List (DataW H × List MemPlace)) (n : Nat), D i = .agg (ys.map (·.1)) ∧ Pl i = ys.flatMap (·.2) ∧ ys.length = fs.size ∧
        ∀ (j : Nat) (f : Field), fs[j]? = some f → ∃ (v : Value) (y : DataW H × List MemPlace), w.cell? (a.add (i * fs.size + j)) = some v ∧ ys[j]? = some y ∧ DataW.trod enc P w base spare held n f.type [v] = some y := by
  rcases open_slice ht h with h0 | ⟨a, len, cap, m, n, D, Pl, hcs, hb, hl, hm, hmm, hx, hi⟩
  · exact .inl h0
  · refine .inr ⟨a, len, cap, m, D, Pl, hcs, hb, hl, hm, hmm, by rw [hC] at hx; exact hx, fun i him => ?_⟩
    obtain ⟨cs', hc, ht'⟩ := hi i him
    rw [hC] at hc
    obtain ⟨ys, n', hn', hy, hlen, hyl, hf⟩ := DataW.trod_struct he ht'
    obtain ⟨_, hcl, hat⟩ := World.cells?_some hc
    simp only [Prod.mk.injEq] at hy
    refine ⟨ys, n', hy.1, hy.2, hyl, fun j f hj => ?_⟩
    obtain ⟨ho, hk⟩ := hone_of hone j f hj
    have hjl : j < fs.size := (Array.getElem?_eq_some_iff.1 hj).1
    have hcell := hat j hjl
    have hv : cs'[j]? = some (cs'[j]'(by omega)) := List.getElem?_eq_getElem (by omega)
    have h1 := hf j f hj
    rw [ho, hk] at h1
    have hone' : (cs'.drop j).take 1 = [cs'[j]'(by omega)] := by
      rw [List.drop_eq_getElem_cons (by omega)]
      rfl
    rw [hone'] at h1
    have hys : ys[j]? = some (ys[j]'(by omega)) := List.getElem?_eq_getElem (by omega)
    refine ⟨_, _, ?_, hys, h1.trans hys⟩
    rw [← Go.Deep.add_add, hcell, hv]
end
section
variable {H : Type} {enc : TypeId × Value → H} {P : Program}
theorem post_of_below {f : Func} {s : ChangeSpec} {apart fresh handsOn again : Bool} {W W' : World} {args : Array Value} {v : Value} {ds gs : List (DataW H)} {before pa pv : List MemPlace}
    (hW : DataW.Whole enc P f.params.toList s.vars apart W args.toList ds gs before)
    (hres : ∀ (b : Nat) (sp : Nat → Bool) (hd : Bool), DataW.TrodAll enc P W' b sp hd f.resultTypes.toList (v.resultList f.resultTypes.size) (s.fn H (ds ++ gs)).results [])
    (hargs : ∀ sp : Nat → Bool, (∀ p ∈ before, sp p.block = true) → DataW.TrodAll enc P W' 0 sp true f.params.toList args.toList (s.fn H (ds ++ gs)).args pa)
    (hvars : ∀ sp : Nat → Bool, (∀ p ∈ before, sp p.block = true) → DataW.TrodVars enc P W' sp s.vars (s.fn H (ds ++ gs)).vars pv)
    (hps : before = pa ++ pv) (hb : Below W.heap.size W W')
    (hok : ∀ (j : Nat) (t : TypeId) (r : Value), f.resultTypes[j]? = some t → (v.resultList f.resultTypes.size)[j]? = some r → Value.okWide P W' .any 0 t r) :
    s.post enc P f apart fresh handsOn again W args v W' := by
  have hlt : ∀ p ∈ before, p.block < W.heap.size := fun p hp => hW.lt p hp
  have hold : ∀ p ∈ before, (fun b => decide (b < W.heap.size)) p.block = true := fun p hp => by simpa using hlt p hp
  refine ⟨ds, gs, before, [], pa, pv, hW, hres _ _ _, hargs _ hold, hvars _ hold, World.keptBut_mono (fun p hp => ⟨hp, ?_⟩) (hb.frame (· ∈ before)), fun _ => ?_⟩
  · rw [hps, List.mem_append] at hp
    exact Or.inr hp
  · obtain ⟨_, _, _, _, _, hz, hn⟩ := hW
    refine ⟨hok, _, _, ([] ++ pa) ++ pv, ⟨[] ++ pa, pv, trodAll_append (hargs _ (fun _ _ => rfl)) (hres _ _ _), hvars _ (fun _ _ => rfl), rfl, ?_, ?_⟩, ?_⟩
    · intro b off hp
      have hin : MemPlace.cell b off ∈ before := by rw [hps]; simpa using hp
      rw [hb.frozen (hlt _ hin)]
      exact hz b off hin
    · intro ha
      have := hn ha
      rw [hps] at this
      simpa using this
    · intro p hp _
      rw [hps]
      simpa using hp
end
theorem own : ownKnob Try.prog.godebug = none := by kernel_rfl
theorem laidOut : laidOutB Try.prog = true := by kernel_rfl
theorem cells26 : Try.prog.cellsOf 26 = 5 := by kernel_rfl
def cellInt (w : World) (a : Addr) : Int := intOf ((w.cell? a).getD undef)
theorem cellInt_eq {w : World} {a : Addr} {k : IntKind} {n : Int} (h : w.cell? a = some (.int k n)) : cellInt w a = n := by unfold cellInt; rw [h]; rfl
theorem wf_int {n : Int} (h : (Lit.int .i64 n).wf = true) : isInt n := by
  simp [Lit.wf, IntKind.min, IntKind.max, IntKind.signed, IntKind.bits] at h
  unfold isInt; omega
theorem wf_u32 {n : Int} (h : (Lit.int .u32 n).wf = true) : 0 ≤ n ∧ n < 4294967296 := by
  simp [Lit.wf, IntKind.min, IntKind.max, IntKind.signed, IntKind.bits] at h
  omega
theorem plain_of_cell {w : World} {a : Addr} {v : Value} (h : w.cell? a = some v) : a = ⟨a.block, a.off, none⟩ := by
  obtain ⟨b, o, s⟩ := a
  cases s with
  | none => rfl
  | some s => unfold World.cell? at h; split at h <;> simp at h
/-- A slice of instructions that came in. -/
theorem open_hins {H : Type} {enc : TypeId × Value → H} {W : World} {r : Reach} {b0 : Nat} {v : Value} {d : DataW H} {ps : List MemPlace} (hv : Value.okWide Try.prog W r b0 22 v) (h : DataW.Trod enc Try.prog W 0 (fun _ => true) true 22 v d ps) :
    ∃ (A : Option Addr) (cap : Nat) (l : List HI), v = .slice A l.length cap ∧ InsAt W A l ∧ (∀ i ∈ l, HI.ints i) ∧ l.length ≤ cap ∧ cap ≤ maxLen := by
  obtain ⟨a0, len, cap, rfl⟩ := okWide_slice Try.underlying22 hv
  obtain ⟨fuel, hf⟩ := h
  rcases open_slice_fields Try.underlying22 Try.underlying26 (by kernel_rfl) (by kernel_rfl) hf with ⟨hcs, hx⟩ | ⟨a, len', cap', m, D, Pl, hcs, _, hl, hm, hmm, hx, hi⟩
  · simp [Value.cells] at hcs
    obtain ⟨rfl, rfl, rfl⟩ := hcs
    exact ⟨none, 0, [], rfl, fun h => absurd h (by simp), fun i h => absurd h (by simp), by simp, by unfold maxLen; omega⟩
  · simp [Value.cells] at hcs
    obtain ⟨rfl, rfl, rfl⟩ := hcs
    simp only [if_true] at hmm
    subst hmm
    have hcell : ∀ i, i < m → ∃ o1 o2 o3 o4 o5 : Int, W.cell? (a.add (i * 5 + 0)) = some (.int .i64 o1) ∧ W.cell? (a.add (i * 5 + 1)) = some (.int .i64 o2) ∧ W.cell? (a.add (i * 5 + 2)) = some (.int .i64 o3) ∧ W.cell? (a.add (i * 5 + 3)) = some (.int .i64 o4) ∧ W.cell? (a.add (i * 5 + 4)) = some (.int .u32 o5) ∧ isInt o1 ∧ isInt o2 ∧ isInt o3 ∧ isInt o4 ∧ 0 ≤ o5 ∧ o5 < 4294967296 := by
      intro i him
      obtain ⟨ys, n, _, _, _, hfl⟩ := hi i him
      obtain ⟨v1, y1, c1, _, t1⟩ := hfl 0 _ rfl
      obtain ⟨v2, y2, c2, _, t2⟩ := hfl 1 _ rfl
      obtain ⟨v3, y3, c3, _, t3⟩ := hfl 2 _ rfl
      obtain ⟨v4, y4, c4, _, t4⟩ := hfl 3 _ rfl
      obtain ⟨v5, y5, c5, _, t5⟩ := hfl 4 _ rfl
      obtain ⟨o1, e1, _, w1⟩ := DataW.trod_int Try.underlying3 t1
      obtain ⟨o2, e2, _, w2⟩ := DataW.trod_int Try.underlying3 t2
      obtain ⟨o3, e3, _, w3⟩ := DataW.trod_int Try.underlying3 t3
      obtain ⟨o4, e4, _, w4⟩ := DataW.trod_int Try.underlying3 t4
      obtain ⟨o5, e5, _, w5⟩ := DataW.trod_int Try.underlying24 t5
      injection e1 with e1
      injection e2 with e2
      injection e3 with e3
      injection e4 with e4
      injection e5 with e5
      subst e1 e2 e3 e4 e5
      exact ⟨o1, o2, o3, o4, o5, c1, c2, c3, c4, c5, wf_int w1, wf_int w2, wf_int w3, wf_int w4, (wf_u32 w5).1, (wf_u32 w5).2⟩
    refine ⟨some a, m, (List.range len).map fun i => ⟨cellInt W (a.add (i * 5 + 0)), cellInt W (a.add (i * 5 + 1)), cellInt W (a.add (i * 5 + 2)), cellInt W (a.add (i * 5 + 3)), cellInt W (a.add (i * 5 + 4))⟩, by simp, fun h0 => ?_, fun i hin => ?_, by simpa using hl, hm⟩
    · simp at h0
      obtain ⟨_, _, _, _, _, c1, _⟩ := hcell 0 (by omega)
      have hp := plain_of_cell (a := a) (by simpa [Addr.add] using c1)
      have hadd : ∀ k, a.add k = ⟨a.block, a.off + k, none⟩ := fun k => by
        rw [hp]; unfold Addr.add; split
        · rename_i h; subst h; rfl
        · rfl
      refine ⟨a.block, a.off, by rw [← hp], ?_, fun k i hk => ?_⟩
      · have := World.block_lt_of_cell? _ _ c1
        rwa [hadd] at this
      · rw [List.getElem?_map] at hk
        have hkl : k < len := by
          rcases Nat.lt_or_ge k len with h | h
          · exact h
          · rw [List.getElem?_eq_none (by simpa using h)] at hk; cases hk
        rw [List.getElem?_range hkl] at hk
        injection hk with hk
        subst hk
        obtain ⟨o1, o2, o3, o4, o5, c1, c2, c3, c4, c5, _⟩ := hcell k (by omega)
        simp only [cellInt_eq c1, cellInt_eq c2, cellInt_eq c3, cellInt_eq c4, cellInt_eq c5]
        simp only [hadd] at c1 c2 c3 c4 c5
        exact ⟨c1, c2, c3, c4, c5⟩
    · rw [List.mem_map] at hin
      obtain ⟨k, hk, rfl⟩ := hin
      rw [List.mem_range] at hk
      obtain ⟨o1, o2, o3, o4, o5, c1, c2, c3, c4, c5, q1, q2, q3, q4, q5, q6⟩ := hcell k (by omega)
      unfold HI.ints HI.fits
      simp only [cellInt_eq c1, cellInt_eq c2, cellInt_eq c3, cellInt_eq c4, cellInt_eq c5]
      exact ⟨q1, q2, q3, q4, q5, q6⟩
end Go.Proofs.Ytndjckfnggnddaa
