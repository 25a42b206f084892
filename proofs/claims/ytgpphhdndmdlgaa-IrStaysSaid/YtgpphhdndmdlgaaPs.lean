/- Chapter 19: blocks as they are drawn come in. -/
import Derived.Test.YtgpphhdndmdlgaaPi
namespace Go.Proofs.Ytgpphhdndmdlgaa
open Go Go.Ev Go.RowKit Go.ChangeShapes Go.WideShapes Go.ChangeAt
set_option linter.unusedVariables false
set_option linter.unusedSimpArgs false
set_option maxRecDepth 100000
namespace Ls
theorem mem47 {H : Type} {ys : List (DataW H × List MemPlace)} (i : Nat) (hy : ys.length = 18) {f : TypeId} {h : i < ys.length} (n : Nat) (hn : n ∈ (ys[i]'h).1.weights Try.prog f) (hf : [23, 23, 23, 24, 23, 23, 3, 3, 3, 3, 3, 3, 3, 3, 22, 22, 4, 3][i]? = some f := by rfl) : n ∈ (DataW.agg (ys.map (·.1))).weights Try.prog 47 := by
  unfold DataW.weights
  rw [Try.underlying47]
  exact DataW.weights_mem_each (j := i) hf (by rw [List.getElem?_map, List.getElem?_eq_getElem h]; rfl) n hn
theorem ctypes47 : Try.prog.cellTypes Try.prog.depth 47 = some [23, 23, 23, 24, 23, 23, 3, 3, 3, 3, 3, 3, 3, 3, 22, 22, 4, 3] := by kernel_rfl
theorem open_T47 {H : Type} {enc : TypeId × Value → H} {W : World} {r : Reach} {b0 : Nat} {v : Value} {d : DataW H} {ps : List MemPlace} (hv : Value.okWide Try.prog W r b0 47 v) (h : DataW.Trod enc Try.prog W 0 (fun _ => true) true 47 v d ps) :
    ∃ (u0 : Value) (l0 : List Int) (u1 : Value) (l1 : List Int) (u2 : Value) (l2 : List Int) (u3 : Value) (l3 : List Int) (u4 : Value) (l4 : List Int) (u5 : Value) (l5 : List Int) (o6 : Int) (o7 : Int) (o8 : Int) (o9 : Int) (o10 : Int) (o11 : Int) (o12 : Int) (o13 : Int) (o14 : Int) (o15 : Int) (o16 : Bool) (o17 : Int), v = .agg #[u0, u1, u2, u3, u4, u5, .int .i64 o6, .int .i64 o7, .int .i64 o8, .int .i64 o9, .int .i64 o10, .int .i64 o11, .int .i64 o12, .int .i64 o13, .int .u32 o14, .int .u32 o15, .bool o16, .int .i64 o17] ∧ InRow W u0 (tab inC l0) l0.length ∧ (∀ x ∈ l0, (Lit.int .i64 x).wf = true) ∧ ((∀ n ∈ d.weights Try.prog 47, n ≤ reachBytes) → l0.length * Try.prog.bytesOf 3 ≤ reachBytes) ∧ InRow W u1 (tab inC l1) l1.length ∧ (∀ x ∈ l1, (Lit.int .i64 x).wf = true) ∧ ((∀ n ∈ d.weights Try.prog 47, n ≤ reachBytes) → l1.length * Try.prog.bytesOf 3 ≤ reachBytes) ∧ InRow W u2 (tab inC l2) l2.length ∧ (∀ x ∈ l2, (Lit.int .i64 x).wf = true) ∧ ((∀ n ∈ d.weights Try.prog 47, n ≤ reachBytes) → l2.length * Try.prog.bytesOf 3 ≤ reachBytes) ∧ InRow W u3 (tab uC l3) l3.length ∧ (∀ x ∈ l3, (Lit.int .u32 x).wf = true) ∧ ((∀ n ∈ d.weights Try.prog 47, n ≤ reachBytes) → l3.length * Try.prog.bytesOf 22 ≤ reachBytes) ∧ InRow W u4 (tab inC l4) l4.length ∧ (∀ x ∈ l4, (Lit.int .i64 x).wf = true) ∧ ((∀ n ∈ d.weights Try.prog 47, n ≤ reachBytes) → l4.length * Try.prog.bytesOf 3 ≤ reachBytes) ∧ InRow W u5 (tab inC l5) l5.length ∧ (∀ x ∈ l5, (Lit.int .i64 x).wf = true) ∧ ((∀ n ∈ d.weights Try.prog 47, n ≤ reachBytes) → l5.length * Try.prog.bytesOf 3 ≤ reachBytes) ∧ (Lit.int .i64 o6).wf = true ∧ (Lit.int .i64 o7).wf = true ∧ (Lit.int .i64 o8).wf = true ∧ (Lit.int .i64 o9).wf = true ∧ (Lit.int .i64 o10).wf = true ∧ (Lit.int .i64 o11).wf = true ∧ (Lit.int .i64 o12).wf = true ∧ (Lit.int .i64 o13).wf = true ∧ (Lit.int .u32 o14).wf = true ∧ (Lit.int .u32 o15).wf = true ∧ (Lit.int .i64 o17).wf = true := by
  obtain ⟨cs, rfl, hsz⟩ := okWide_struct Try.underlying47 hv
  have hrow : Row.okWide Try.prog W r b0 47 cs := by
    have h2 := hv
    simp only [Value.okWide, Try.underlying47] at h2
    obtain ⟨cs', e, _, h3⟩ := h2
    injection e with e; subst e; exact h3
  obtain ⟨ts, hts, _, hc⟩ := hrow
  rw [ctypes47] at hts
  injection hts with hts; subst hts
  have hszn : cs.size = 18 := hsz.trans (by kernel_rfl)
  obtain ⟨fuel, hf⟩ := h
  obtain ⟨ys, n', _, hxe, _, hyl, hfl⟩ := DataW.trod_struct Try.underlying47 hf
  injection hxe with hd9 _
  subst hd9
  obtain ⟨l⟩ := cs
  obtain ⟨x0, x1, x2, x3, x4, x5, x6, x7, x8, x9, x10, x11, x12, x13, x14, x15, x16, x17, rfl⟩ : ∃ a0 a1 a2 a3 a4 a5 a6 a7 a8 a9 a10 a11 a12 a13 a14 a15 a16 a17, l = [a0, a1, a2, a3, a4, a5, a6, a7, a8, a9, a10, a11, a12, a13, a14, a15, a16, a17] := by
    match l, hszn with
    | [a0, a1, a2, a3, a4, a5, a6, a7, a8, a9, a10, a11, a12, a13, a14, a15, a16, a17], _ => exact ⟨a0, a1, a2, a3, a4, a5, a6, a7, a8, a9, a10, a11, a12, a13, a14, a15, a16, a17, rfl⟩
  have hyln : ys.length = 18 := hyl
  obtain ⟨u0_, e0, k0⟩ := hc 0 x0 rfl
  obtain ⟨u1_, e1, k1⟩ := hc 1 x1 rfl
  obtain ⟨u2_, e2, k2⟩ := hc 2 x2 rfl
  obtain ⟨u3_, e3, k3⟩ := hc 3 x3 rfl
  obtain ⟨u4_, e4, k4⟩ := hc 4 x4 rfl
  obtain ⟨u5_, e5, k5⟩ := hc 5 x5 rfl
  obtain ⟨u6_, e6, k6⟩ := hc 6 x6 rfl
  obtain ⟨u7_, e7, k7⟩ := hc 7 x7 rfl
  obtain ⟨u8_, e8, k8⟩ := hc 8 x8 rfl
  obtain ⟨u9_, e9, k9⟩ := hc 9 x9 rfl
  obtain ⟨u10_, e10, k10⟩ := hc 10 x10 rfl
  obtain ⟨u11_, e11, k11⟩ := hc 11 x11 rfl
  obtain ⟨u12_, e12, k12⟩ := hc 12 x12 rfl
  obtain ⟨u13_, e13, k13⟩ := hc 13 x13 rfl
  obtain ⟨u14_, e14, k14⟩ := hc 14 x14 rfl
  obtain ⟨u15_, e15, k15⟩ := hc 15 x15 rfl
  obtain ⟨u16_, e16, k16⟩ := hc 16 x16 rfl
  obtain ⟨u17_, e17, k17⟩ := hc 17 x17 rfl
  cases e0; cases e1; cases e2; cases e3; cases e4; cases e5; cases e6; cases e7; cases e8; cases e9; cases e10; cases e11; cases e12; cases e13; cases e14; cases e15; cases e16; cases e17
  have w0 : Value.okWide Try.prog W r b0 23 x0 := by simp only [Value.okWide, Try.underlying23]; exact k0
  have w1 : Value.okWide Try.prog W r b0 23 x1 := by simp only [Value.okWide, Try.underlying23]; exact k1
  have w2 : Value.okWide Try.prog W r b0 23 x2 := by simp only [Value.okWide, Try.underlying23]; exact k2
  have w3 : Value.okWide Try.prog W r b0 24 x3 := by simp only [Value.okWide, Try.underlying24]; exact k3
  have w4 : Value.okWide Try.prog W r b0 23 x4 := by simp only [Value.okWide, Try.underlying23]; exact k4
  have w5 : Value.okWide Try.prog W r b0 23 x5 := by simp only [Value.okWide, Try.underlying23]; exact k5
  have w6 : Value.okWide Try.prog W r b0 3 x6 := by simp only [Value.okWide, Try.underlying3]; exact k6
  have w7 : Value.okWide Try.prog W r b0 3 x7 := by simp only [Value.okWide, Try.underlying3]; exact k7
  have w8 : Value.okWide Try.prog W r b0 3 x8 := by simp only [Value.okWide, Try.underlying3]; exact k8
  have w9 : Value.okWide Try.prog W r b0 3 x9 := by simp only [Value.okWide, Try.underlying3]; exact k9
  have w10 : Value.okWide Try.prog W r b0 3 x10 := by simp only [Value.okWide, Try.underlying3]; exact k10
  have w11 : Value.okWide Try.prog W r b0 3 x11 := by simp only [Value.okWide, Try.underlying3]; exact k11
  have w12 : Value.okWide Try.prog W r b0 3 x12 := by simp only [Value.okWide, Try.underlying3]; exact k12
  have w13 : Value.okWide Try.prog W r b0 3 x13 := by simp only [Value.okWide, Try.underlying3]; exact k13
  have w14 : Value.okWide Try.prog W r b0 22 x14 := by simp only [Value.okWide, Try.underlying22]; exact k14
  have w15 : Value.okWide Try.prog W r b0 22 x15 := by simp only [Value.okWide, Try.underlying22]; exact k15
  have w16 : Value.okWide Try.prog W r b0 4 x16 := by simp only [Value.okWide, Try.underlying4]; exact k16
  have w17 : Value.okWide Try.prog W r b0 3 x17 := by simp only [Value.okWide, Try.underlying3]; exact k17
  obtain ⟨aa0, qq0, mm0, rfl⟩ := okWide_slice Try.underlying23 w0
  obtain ⟨aa1, qq1, mm1, rfl⟩ := okWide_slice Try.underlying23 w1
  obtain ⟨aa2, qq2, mm2, rfl⟩ := okWide_slice Try.underlying23 w2
  obtain ⟨aa3, qq3, mm3, rfl⟩ := okWide_slice Try.underlying24 w3
  obtain ⟨aa4, qq4, mm4, rfl⟩ := okWide_slice Try.underlying23 w4
  obtain ⟨aa5, qq5, mm5, rfl⟩ := okWide_slice Try.underlying23 w5
  obtain ⟨l0, r0, wf0, sz0⟩ := in_ints_w Try.underlying23 Try.underlying3 (by kernel_rfl) (ec := inC) (fun _ => rfl) (d := (ys[0]'(by omega)).1) (ps := (ys[0]'(by omega)).2) w0 ⟨n', (hfl 0 _ rfl).trans (List.getElem?_eq_getElem (by omega))⟩
  obtain ⟨l1, r1, wf1, sz1⟩ := in_ints_w Try.underlying23 Try.underlying3 (by kernel_rfl) (ec := inC) (fun _ => rfl) (d := (ys[1]'(by omega)).1) (ps := (ys[1]'(by omega)).2) w1 ⟨n', (hfl 1 _ rfl).trans (List.getElem?_eq_getElem (by omega))⟩
  obtain ⟨l2, r2, wf2, sz2⟩ := in_ints_w Try.underlying23 Try.underlying3 (by kernel_rfl) (ec := inC) (fun _ => rfl) (d := (ys[2]'(by omega)).1) (ps := (ys[2]'(by omega)).2) w2 ⟨n', (hfl 2 _ rfl).trans (List.getElem?_eq_getElem (by omega))⟩
  obtain ⟨l3, r3, wf3, sz3⟩ := in_ints_w Try.underlying24 Try.underlying22 (by kernel_rfl) (ec := uC) (fun _ => rfl) (d := (ys[3]'(by omega)).1) (ps := (ys[3]'(by omega)).2) w3 ⟨n', (hfl 3 _ rfl).trans (List.getElem?_eq_getElem (by omega))⟩
  obtain ⟨l4, r4, wf4, sz4⟩ := in_ints_w Try.underlying23 Try.underlying3 (by kernel_rfl) (ec := inC) (fun _ => rfl) (d := (ys[4]'(by omega)).1) (ps := (ys[4]'(by omega)).2) w4 ⟨n', (hfl 4 _ rfl).trans (List.getElem?_eq_getElem (by omega))⟩
  obtain ⟨l5, r5, wf5, sz5⟩ := in_ints_w Try.underlying23 Try.underlying3 (by kernel_rfl) (ec := inC) (fun _ => rfl) (d := (ys[5]'(by omega)).1) (ps := (ys[5]'(by omega)).2) w5 ⟨n', (hfl 5 _ rfl).trans (List.getElem?_eq_getElem (by omega))⟩
  obtain ⟨o6, z6, _, wf6⟩ := DataW.trod_int (cs := [x6]) (x := ys[6]'(by omega)) Try.underlying3 ((hfl 6 _ rfl).trans (List.getElem?_eq_getElem (by omega)))
  injection z6 with z6
  obtain ⟨o7, z7, _, wf7⟩ := DataW.trod_int (cs := [x7]) (x := ys[7]'(by omega)) Try.underlying3 ((hfl 7 _ rfl).trans (List.getElem?_eq_getElem (by omega)))
  injection z7 with z7
  obtain ⟨o8, z8, _, wf8⟩ := DataW.trod_int (cs := [x8]) (x := ys[8]'(by omega)) Try.underlying3 ((hfl 8 _ rfl).trans (List.getElem?_eq_getElem (by omega)))
  injection z8 with z8
  obtain ⟨o9, z9, _, wf9⟩ := DataW.trod_int (cs := [x9]) (x := ys[9]'(by omega)) Try.underlying3 ((hfl 9 _ rfl).trans (List.getElem?_eq_getElem (by omega)))
  injection z9 with z9
  obtain ⟨o10, z10, _, wf10⟩ := DataW.trod_int (cs := [x10]) (x := ys[10]'(by omega)) Try.underlying3 ((hfl 10 _ rfl).trans (List.getElem?_eq_getElem (by omega)))
  injection z10 with z10
  obtain ⟨o11, z11, _, wf11⟩ := DataW.trod_int (cs := [x11]) (x := ys[11]'(by omega)) Try.underlying3 ((hfl 11 _ rfl).trans (List.getElem?_eq_getElem (by omega)))
  injection z11 with z11
  obtain ⟨o12, z12, _, wf12⟩ := DataW.trod_int (cs := [x12]) (x := ys[12]'(by omega)) Try.underlying3 ((hfl 12 _ rfl).trans (List.getElem?_eq_getElem (by omega)))
  injection z12 with z12
  obtain ⟨o13, z13, _, wf13⟩ := DataW.trod_int (cs := [x13]) (x := ys[13]'(by omega)) Try.underlying3 ((hfl 13 _ rfl).trans (List.getElem?_eq_getElem (by omega)))
  injection z13 with z13
  obtain ⟨o14, z14, _, wf14⟩ := DataW.trod_int (cs := [x14]) (x := ys[14]'(by omega)) Try.underlying22 ((hfl 14 _ rfl).trans (List.getElem?_eq_getElem (by omega)))
  injection z14 with z14
  obtain ⟨o15, z15, _, wf15⟩ := DataW.trod_int (cs := [x15]) (x := ys[15]'(by omega)) Try.underlying22 ((hfl 15 _ rfl).trans (List.getElem?_eq_getElem (by omega)))
  injection z15 with z15
  obtain ⟨o16, z16, _⟩ := DataW.trod_bool (cs := [x16]) (x := ys[16]'(by omega)) Try.underlying4 ((hfl 16 _ rfl).trans (List.getElem?_eq_getElem (by omega)))
  injection z16 with z16
  obtain ⟨o17, z17, _, wf17⟩ := DataW.trod_int (cs := [x17]) (x := ys[17]'(by omega)) Try.underlying3 ((hfl 17 _ rfl).trans (List.getElem?_eq_getElem (by omega)))
  injection z17 with z17
  exact ⟨_, l0, _, l1, _, l2, _, l3, _, l4, _, l5, o6, o7, o8, o9, o10, o11, o12, o13, o14, o15, o16, o17, by rw [z6, z7, z8, z9, z10, z11, z12, z13, z14, z15, z16, z17], r0, wf0, fun hs => sz0 fun n hn => hs n (mem47 0 hyl n hn), r1, wf1, fun hs => sz1 fun n hn => hs n (mem47 1 hyl n hn), r2, wf2, fun hs => sz2 fun n hn => hs n (mem47 2 hyl n hn), r3, wf3, fun hs => sz3 fun n hn => hs n (mem47 3 hyl n hn), r4, wf4, fun hs => sz4 fun n hn => hs n (mem47 4 hyl n hn), r5, wf5, fun hs => sz5 fun n hn => hs n (mem47 5 hyl n hn), wf6, wf7, wf8, wf9, wf10, wf11, wf12, wf13, wf14, wf15, wf17⟩
end Ls
end Go.Proofs.Ytgpphhdndmdlgaa
