/- Chapter 20: arguments that come in. -/
import Derived.Test.YtahikechkggbfaaSa
import Derived.Test.YtahikechkggbfaaEvMi
namespace Go.Proofs.Ytahikechkggbfaa
open Go Go.Ev Go.RowKit Go.ChangeShapes Go.WideShapes Go.ChangeAt
set_option linter.unusedVariables false
set_option linter.unusedSimpArgs false
set_option maxRecDepth 100000
namespace Ls
theorem own : ownKnob Try.prog.godebug = none := by kernel_rfl
theorem laidOut : laidOutB Try.prog = true := by kernel_rfl
theorem ctypes24 : Try.prog.cellTypes Try.prog.depth 24 = some [22, 22, 22, 22, 3, 4] := by kernel_rfl
theorem open_T24 {H : Type} {enc : TypeId × Value → H} {W : World} {r : Reach} {b0 : Nat} {v : Value} {d : DataW H} {ps : List MemPlace} (hv : Value.okWide Try.prog W r b0 24 v) (h : DataW.Trod enc Try.prog W 0 (fun _ => true) true 24 v d ps) :
    ∃ (u0 : Value) (l0 : List Int) (u1 : Value) (l1 : List Int) (u2 : Value) (l2 : List Int) (u3 : Value) (l3 : List Int) (o4 : Int) (o5 : Bool), v = .agg #[u0, u1, u2, u3, .int .i64 o4, .bool o5] ∧ InRow W u0 (tab inC l0) l0.length ∧ (∀ x ∈ l0, (Lit.int .i64 x).wf = true) ∧ InRow W u1 (tab inC l1) l1.length ∧ (∀ x ∈ l1, (Lit.int .i64 x).wf = true) ∧ InRow W u2 (tab inC l2) l2.length ∧ (∀ x ∈ l2, (Lit.int .i64 x).wf = true) ∧ InRow W u3 (tab inC l3) l3.length ∧ (∀ x ∈ l3, (Lit.int .i64 x).wf = true) ∧ (Lit.int .i64 o4).wf = true := by
  obtain ⟨cs, rfl, hsz⟩ := okWide_struct Try.underlying24 hv
  have hrow : Row.okWide Try.prog W r b0 24 cs := by
    have h2 := hv
    simp only [Value.okWide, Try.underlying24] at h2
    obtain ⟨cs', e, _, h3⟩ := h2
    injection e with e; subst e; exact h3
  obtain ⟨ts, hts, _, hc⟩ := hrow
  rw [ctypes24] at hts
  injection hts with hts; subst hts
  have hszn : cs.size = 6 := hsz.trans (by kernel_rfl)
  obtain ⟨fuel, hf⟩ := h
  obtain ⟨ys, n', _, _, _, hyl, hfl⟩ := DataW.trod_struct Try.underlying24 hf
  obtain ⟨l⟩ := cs
  obtain ⟨x0, x1, x2, x3, x4, x5, rfl⟩ : ∃ a0 a1 a2 a3 a4 a5, l = [a0, a1, a2, a3, a4, a5] := by
    match l, hszn with
    | [a0, a1, a2, a3, a4, a5], _ => exact ⟨a0, a1, a2, a3, a4, a5, rfl⟩
  have hyln : ys.length = 6 := hyl
  obtain ⟨u0_, e0, k0⟩ := hc 0 x0 rfl
  obtain ⟨u1_, e1, k1⟩ := hc 1 x1 rfl
  obtain ⟨u2_, e2, k2⟩ := hc 2 x2 rfl
  obtain ⟨u3_, e3, k3⟩ := hc 3 x3 rfl
  obtain ⟨u4_, e4, k4⟩ := hc 4 x4 rfl
  obtain ⟨u5_, e5, k5⟩ := hc 5 x5 rfl
  cases e0; cases e1; cases e2; cases e3; cases e4; cases e5
  have w0 : Value.okWide Try.prog W r b0 22 x0 := by simp only [Value.okWide, Try.underlying22]; exact k0
  have w1 : Value.okWide Try.prog W r b0 22 x1 := by simp only [Value.okWide, Try.underlying22]; exact k1
  have w2 : Value.okWide Try.prog W r b0 22 x2 := by simp only [Value.okWide, Try.underlying22]; exact k2
  have w3 : Value.okWide Try.prog W r b0 22 x3 := by simp only [Value.okWide, Try.underlying22]; exact k3
  have w4 : Value.okWide Try.prog W r b0 3 x4 := by simp only [Value.okWide, Try.underlying3]; exact k4
  have w5 : Value.okWide Try.prog W r b0 4 x5 := by simp only [Value.okWide, Try.underlying4]; exact k5
  obtain ⟨aa0, qq0, mm0, rfl⟩ := okWide_slice Try.underlying22 w0
  obtain ⟨aa1, qq1, mm1, rfl⟩ := okWide_slice Try.underlying22 w1
  obtain ⟨aa2, qq2, mm2, rfl⟩ := okWide_slice Try.underlying22 w2
  obtain ⟨aa3, qq3, mm3, rfl⟩ := okWide_slice Try.underlying22 w3
  obtain ⟨l0, r0, wf0⟩ := in_ints Try.underlying22 Try.underlying3 (by kernel_rfl) (ec := inC) (fun _ => rfl) (d := (ys[0]'(by omega)).1) (ps := (ys[0]'(by omega)).2) w0 ⟨n', (hfl 0 _ rfl).trans (List.getElem?_eq_getElem (by omega))⟩
  obtain ⟨l1, r1, wf1⟩ := in_ints Try.underlying22 Try.underlying3 (by kernel_rfl) (ec := inC) (fun _ => rfl) (d := (ys[1]'(by omega)).1) (ps := (ys[1]'(by omega)).2) w1 ⟨n', (hfl 1 _ rfl).trans (List.getElem?_eq_getElem (by omega))⟩
  obtain ⟨l2, r2, wf2⟩ := in_ints Try.underlying22 Try.underlying3 (by kernel_rfl) (ec := inC) (fun _ => rfl) (d := (ys[2]'(by omega)).1) (ps := (ys[2]'(by omega)).2) w2 ⟨n', (hfl 2 _ rfl).trans (List.getElem?_eq_getElem (by omega))⟩
  obtain ⟨l3, r3, wf3⟩ := in_ints Try.underlying22 Try.underlying3 (by kernel_rfl) (ec := inC) (fun _ => rfl) (d := (ys[3]'(by omega)).1) (ps := (ys[3]'(by omega)).2) w3 ⟨n', (hfl 3 _ rfl).trans (List.getElem?_eq_getElem (by omega))⟩
  obtain ⟨o4, z4, _, wf4⟩ := DataW.trod_int (cs := [x4]) (x := ys[4]'(by omega)) Try.underlying3 ((hfl 4 _ rfl).trans (List.getElem?_eq_getElem (by omega)))
  injection z4 with z4
  obtain ⟨o5, z5, _⟩ := DataW.trod_bool (cs := [x5]) (x := ys[5]'(by omega)) Try.underlying4 ((hfl 5 _ rfl).trans (List.getElem?_eq_getElem (by omega)))
  injection z5 with z5
  exact ⟨_, l0, _, l1, _, l2, _, l3, o4, o5, by rw [z4, z5], r0, wf0, r1, wf1, r2, wf2, r3, wf3, wf4⟩
end Ls
end Go.Proofs.Ytahikechkggbfaa
