/- Chapter 19: blocks and states as they come in. -/
import Derived.Test.YtgpphhdndmdlgaaDoorMo
import Derived.Test.YtgpphhdndmdlgaaDoorKl
import Derived.Test.YtgpphhdndmdlgaaDoorCards
import Derived.Test.YtgpphhdndmdlgaaDoorTie
import Derived.ProofKit
import Derived.LaidMore
import Derived.OpenShut
import Derived.Stop.Joined
import Derived.Stop.LaidErr
import Derived.MakeChecks
import Derived.SevenTiedAt
import Derived.WideKeyArgs
import Derived.SizedLaws
namespace Go.Proofs.YtgpphhdndmdlgaaDoor
open Go Go.Ev Go.RowKit Go.ChangeShapes Go.WideShapes Go.ChangeAt
set_option linter.unusedVariables false
set_option linter.unusedSimpArgs false
set_option maxRecDepth 100000
namespace Ls
theorem own : ownKnob Tryd.prog.godebug = none := by kernel_rfl
theorem laidOut : laidOutB Tryd.prog = true := by kernel_rfl
theorem in_ints_w {P : Program} {H : Type} {enc : TypeId × Value → H} {W : World} {r : Reach} {b0 : Nat} {t e : TypeId} {kd : IntKind} (ht : P.underlying t = some (.slice e)) (he : P.underlying e = some (.int kd)) (h1 : P.cellsOf e = 1) {ec : Int → List Value} (hec : ∀ x, ec x = [.int kd x]) {v : Value} {d : DataW H} {ps : List MemPlace} (hv : Value.okWide P W r b0 t v) (h : DataW.Trod enc P W 0 (fun _ => true) true t v d ps) :
    ∃ l : List Int, InRow W v (tab ec l) l.length ∧ (∀ x ∈ l, (Lit.int kd x).wf = true) ∧ ((∀ n ∈ d.weights P t, n ≤ reachBytes) → l.length * P.bytesOf e ≤ reachBytes) := by
 have hec2 : ec = fun x => [.int kd x] := funext hec
 subst hec2
 have key : ∀ (A : Option Addr) (cap : Nat) (l : List Int), v = .slice A l.length cap → RowW W A (l.map (Value.int kd)) → l.length ≤ cap → cap ≤ maxLen → (A = none → cap = 0) → InRow W v (tab (fun x => [.int kd x]) l) l.length := fun A cap l e q hl hm hc => by
  refine ⟨A, cap, e, hc, by rw [tab_map]; exact q, fun hA => ?_, hl, hm⟩
  have := hc hA; omega
 obtain ⟨a0, len, cap, rfl⟩ := okWide_slice ht hv
 obtain ⟨fuel, hf⟩ := h
 rcases open_ints ht he h1 hf with ⟨hcs, hx⟩ | ⟨a, len', cap', zs, hcs, _, hl, hm, hz, hx, hcell, hwz⟩
 ·simp [Value.cells] at hcs
  obtain ⟨rfl, rfl, rfl⟩ := hcs
  exact ⟨[], key none 0 [] rfl ⟨.inl ⟨rfl, rfl⟩⟩ (by simp) (by unfold maxLen; omega) (fun _ => rfl), fun _ h => (by cases h), fun _ => by simp⟩
 ·simp [Value.cells] at hcs
  obtain ⟨rfl, rfl, rfl⟩ := hcs
  simp only [if_true] at hz
  have hlen : (zs.take len).length = len := by simp; omega
  obtain ⟨hspot, hb⟩ := has_block ht hv
  refine ⟨zs.take len, key (some a) cap (zs.take len) (by rw [hlen]) (RowW.of_cells hspot hb fun i x hx => ?_) (by rw [hlen]; exact hl) hm (fun h => by cases h), fun x hx => hwz x (List.mem_of_mem_take hx), fun hs => ?_⟩
  ·rw [List.getElem?_map, List.getElem?_take] at hx
   split at hx
   ·rename_i hi
    have hc := hcell i (by omega)
    rw [hc, List.getD_eq_getElem?_getD]
    cases hz2 : zs[i]? with
    | none => rw [hz2] at hx; cases hx
    | some y => rw [hz2] at hx; exact hx
   ·cases hx
  ·injection hx with hd _
   subst hd
   have := hs (((lits (H := H) kd (zs.take len)).length + (lits (H := H) kd (zs.drop len)).length) * P.bytesOf e) (by simp [DataW.weights, ht])
   refine Nat.le_trans (Nat.mul_le_mul_right _ ?_) this
   simp [lits]
theorem i64_of {l : List Int} (h : ∀ x ∈ l, (Lit.int .i64 x).wf = true) : ∀ x ∈ l, i64B x = true := fun x hx => by
 have := wf_i64 (h x hx)
 simp [i64B]; omega
theorem V32_of {l : List Int} (h : ∀ x ∈ l, (Lit.int .u32 x).wf = true) : ∀ x ∈ l, 0 ≤ x ∧ x < 4294967296 := fun x hx => wf_u32 (h x hx)
theorem wf_u64' {n : Int} (h : (Lit.int .u64 n).wf = true) : 0 ≤ n ∧ n < 18446744073709551616 := by
 simp [Lit.wf, IntKind.min, IntKind.max, IntKind.signed, IntKind.bits] at h; omega
theorem len_max {W : World} {v : Value} {cs : List Value} {n : Nat} (h : InRow W v cs n) : n ≤ 9223372036854775807 := by have := h.len; unfold maxLen at this; omega
theorem weight_of {H : Type} {P : Program} {ts : List TypeId} {ds : List (DataW H)} (h : (DataW.weightsEach P ts ds).all (· ≤ reachBytes) = true) {j : Nat} {t : TypeId} {d : DataW H} (ht : ts[j]? = some t) (hd : ds[j]? = some d) : ∀ n ∈ d.weights P t, n ≤ reachBytes := fun n hn => by
 have := List.all_eq_true.1 h _ (DataW.weights_mem_each ht hd n hn)
 simpa using this
theorem bytes4 {n b : Nat} (h : n * b ≤ reachBytes) (hb : b = 4) : n * 4 ≤ 140737488355328 := by
 subst hb
 unfold reachBytes at h; omega
theorem mem29 {H : Type} {ys : List (DataW H × List MemPlace)} (i : Nat) (hy : ys.length = 16) {f : TypeId} {h : i < ys.length} (n : Nat) (hn : n ∈ (ys[i]'h).1.weights Tryd.prog f) (hf : [24, 23, 23, 24, 4, 4, 4, 24, 24, 24, 24, 24, 4, 4, 27, 4][i]? = some f := by rfl) : n ∈ (DataW.agg (ys.map (·.1))).weights Tryd.prog 29 := by
 unfold DataW.weights
 rw [Tryd.underlying29]
 exact DataW.weights_mem_each (j := i) hf (by rw [List.getElem?_map, List.getElem?_eq_getElem h]; rfl) n hn
theorem ctypes29 : Tryd.prog.cellTypes Tryd.prog.depth 29 = some [24, 23, 23, 24, 4, 4, 4, 24, 24, 24, 24, 24, 4, 4, 27, 4] := by kernel_rfl
theorem open_T29 {H : Type} {enc : TypeId × Value → H} {W : World} {r : Reach} {b0 : Nat} {v : Value} {d : DataW H} {ps : List MemPlace} (hv : Value.okWide Tryd.prog W r b0 29 v) (h : DataW.Trod enc Tryd.prog W 0 (fun _ => true) true 29 v d ps) :
    ∃ (o0 : Int) (u1 : Value) (l1 : List Int) (u2 : Value) (l2 : List Int) (o3 : Int) (o4 : Bool) (o5 : Bool) (o6 : Bool) (o7 : Int) (o8 : Int) (o9 : Int) (o10 : Int) (o11 : Int) (o12 : Bool) (o13 : Bool) (o14 : Int) (o15 : Bool), v = .agg #[.int .u32 o0, u1, u2, .int .u32 o3, .bool o4, .bool o5, .bool o6, .int .u32 o7, .int .u32 o8, .int .u32 o9, .int .u32 o10, .int .u32 o11, .bool o12, .bool o13, .int .u64 o14, .bool o15] ∧ (Lit.int .u32 o0).wf = true ∧ InRow W u1 (tab uC l1) l1.length ∧ (∀ x ∈ l1, (Lit.int .u32 x).wf = true) ∧ ((∀ n ∈ d.weights Tryd.prog 29, n ≤ reachBytes) → l1.length * Tryd.prog.bytesOf 24 ≤ reachBytes) ∧ InRow W u2 (tab uC l2) l2.length ∧ (∀ x ∈ l2, (Lit.int .u32 x).wf = true) ∧ ((∀ n ∈ d.weights Tryd.prog 29, n ≤ reachBytes) → l2.length * Tryd.prog.bytesOf 24 ≤ reachBytes) ∧ (Lit.int .u32 o3).wf = true ∧ (Lit.int .u32 o7).wf = true ∧ (Lit.int .u32 o8).wf = true ∧ (Lit.int .u32 o9).wf = true ∧ (Lit.int .u32 o10).wf = true ∧ (Lit.int .u32 o11).wf = true ∧ (Lit.int .u64 o14).wf = true := by
 obtain ⟨cs, rfl, hsz⟩ := okWide_struct Tryd.underlying29 hv
 have hrow : Row.okWide Tryd.prog W r b0 29 cs := by
  have h2 := hv
  simp only [Value.okWide, Tryd.underlying29] at h2
  obtain ⟨cs', e, _, h3⟩ := h2
  injection e with e; subst e; exact h3
 obtain ⟨ts, hts, _, hc⟩ := hrow
 rw [ctypes29] at hts
 injection hts with hts; subst hts
 have hszn : cs.size = 16 := hsz.trans (by kernel_rfl)
 obtain ⟨fuel, hf⟩ := h
 obtain ⟨ys, n', _, hxe, _, hyl, hfl⟩ := DataW.trod_struct Tryd.underlying29 hf
 injection hxe with hd9 _
 subst hd9
 obtain ⟨l⟩ := cs
 obtain ⟨x0, x1, x2, x3, x4, x5, x6, x7, x8, x9, x10, x11, x12, x13, x14, x15, rfl⟩ : ∃ a0 a1 a2 a3 a4 a5 a6 a7 a8 a9 a10 a11 a12 a13 a14 a15, l = [a0, a1, a2, a3, a4, a5, a6, a7, a8, a9, a10, a11, a12, a13, a14, a15] := by
  match l, hszn with
  | [a0, a1, a2, a3, a4, a5, a6, a7, a8, a9, a10, a11, a12, a13, a14, a15], _ => exact ⟨a0, a1, a2, a3, a4, a5, a6, a7, a8, a9, a10, a11, a12, a13, a14, a15, rfl⟩
 have hyln : ys.length = 16 := hyl
 obtain ⟨u0_, e0, k0⟩ := hc 0 x0 rfl
 obtain ⟨u1_, e1, k1⟩ := hc 1 x1 rfl
 obtain ⟨u2_, e2, k2⟩ := hc 2 x2 rfl
 obtain ⟨u3_, e3, k3⟩ := hc 3 x3 rfl
 obtain ⟨u4_, e4, k4⟩ := hc 4 x4 rfl
 obtain ⟨u5_, e5, k5⟩ := hc 5 x5 rfl
 obtain ⟨u6_, e6, k6⟩ := hc 6 x6 rfl
 obtain ⟨u7_, e7, k7⟩ := hc 7 x7 rfl
 obtain ⟨u8_, e8, k8⟩ := hc 8 x8 rfl
 obtain ⟨u9_, e9, k9⟩ := hc 9 x9 rfl
 obtain ⟨u10_, e10, k10⟩ := hc 10 x10 rfl
 obtain ⟨u11_, e11, k11⟩ := hc 11 x11 rfl
 obtain ⟨u12_, e12, k12⟩ := hc 12 x12 rfl
 obtain ⟨u13_, e13, k13⟩ := hc 13 x13 rfl
 obtain ⟨u14_, e14, k14⟩ := hc 14 x14 rfl
 obtain ⟨u15_, e15, k15⟩ := hc 15 x15 rfl
 cases e0; cases e1; cases e2; cases e3; cases e4; cases e5; cases e6; cases e7; cases e8; cases e9; cases e10; cases e11; cases e12; cases e13; cases e14; cases e15
 have w0 : Value.okWide Tryd.prog W r b0 24 x0 := by simp only [Value.okWide, Tryd.underlying24]; exact k0
 have w1 : Value.okWide Tryd.prog W r b0 23 x1 := by simp only [Value.okWide, Tryd.underlying23]; exact k1
 have w2 : Value.okWide Tryd.prog W r b0 23 x2 := by simp only [Value.okWide, Tryd.underlying23]; exact k2
 have w3 : Value.okWide Tryd.prog W r b0 24 x3 := by simp only [Value.okWide, Tryd.underlying24]; exact k3
 have w4 : Value.okWide Tryd.prog W r b0 4 x4 := by simp only [Value.okWide, Tryd.underlying4]; exact k4
 have w5 : Value.okWide Tryd.prog W r b0 4 x5 := by simp only [Value.okWide, Tryd.underlying4]; exact k5
 have w6 : Value.okWide Tryd.prog W r b0 4 x6 := by simp only [Value.okWide, Tryd.underlying4]; exact k6
 have w7 : Value.okWide Tryd.prog W r b0 24 x7 := by simp only [Value.okWide, Tryd.underlying24]; exact k7
 have w8 : Value.okWide Tryd.prog W r b0 24 x8 := by simp only [Value.okWide, Tryd.underlying24]; exact k8
 have w9 : Value.okWide Tryd.prog W r b0 24 x9 := by simp only [Value.okWide, Tryd.underlying24]; exact k9
 have w10 : Value.okWide Tryd.prog W r b0 24 x10 := by simp only [Value.okWide, Tryd.underlying24]; exact k10
 have w11 : Value.okWide Tryd.prog W r b0 24 x11 := by simp only [Value.okWide, Tryd.underlying24]; exact k11
 have w12 : Value.okWide Tryd.prog W r b0 4 x12 := by simp only [Value.okWide, Tryd.underlying4]; exact k12
 have w13 : Value.okWide Tryd.prog W r b0 4 x13 := by simp only [Value.okWide, Tryd.underlying4]; exact k13
 have w14 : Value.okWide Tryd.prog W r b0 27 x14 := by simp only [Value.okWide, Tryd.underlying27]; exact k14
 have w15 : Value.okWide Tryd.prog W r b0 4 x15 := by simp only [Value.okWide, Tryd.underlying4]; exact k15
 obtain ⟨aa1, qq1, mm1, rfl⟩ := okWide_slice Tryd.underlying23 w1
 obtain ⟨aa2, qq2, mm2, rfl⟩ := okWide_slice Tryd.underlying23 w2
 obtain ⟨o0, z0, _, wf0⟩ := DataW.trod_int (cs := [x0]) (x := ys[0]'(by omega)) Tryd.underlying24 ((hfl 0 _ rfl).trans (List.getElem?_eq_getElem (by omega)))
 injection z0 with z0
 obtain ⟨l1, r1, wf1, sz1⟩ := in_ints_w Tryd.underlying23 Tryd.underlying24 (by kernel_rfl) (ec := uC) (fun _ => rfl) (d := (ys[1]'(by omega)).1) (ps := (ys[1]'(by omega)).2) w1 ⟨n', (hfl 1 _ rfl).trans (List.getElem?_eq_getElem (by omega))⟩
 obtain ⟨l2, r2, wf2, sz2⟩ := in_ints_w Tryd.underlying23 Tryd.underlying24 (by kernel_rfl) (ec := uC) (fun _ => rfl) (d := (ys[2]'(by omega)).1) (ps := (ys[2]'(by omega)).2) w2 ⟨n', (hfl 2 _ rfl).trans (List.getElem?_eq_getElem (by omega))⟩
 obtain ⟨o3, z3, _, wf3⟩ := DataW.trod_int (cs := [x3]) (x := ys[3]'(by omega)) Tryd.underlying24 ((hfl 3 _ rfl).trans (List.getElem?_eq_getElem (by omega)))
 injection z3 with z3
 obtain ⟨o4, z4, _⟩ := DataW.trod_bool (cs := [x4]) (x := ys[4]'(by omega)) Tryd.underlying4 ((hfl 4 _ rfl).trans (List.getElem?_eq_getElem (by omega)))
 injection z4 with z4
 obtain ⟨o5, z5, _⟩ := DataW.trod_bool (cs := [x5]) (x := ys[5]'(by omega)) Tryd.underlying4 ((hfl 5 _ rfl).trans (List.getElem?_eq_getElem (by omega)))
 injection z5 with z5
 obtain ⟨o6, z6, _⟩ := DataW.trod_bool (cs := [x6]) (x := ys[6]'(by omega)) Tryd.underlying4 ((hfl 6 _ rfl).trans (List.getElem?_eq_getElem (by omega)))
 injection z6 with z6
 obtain ⟨o7, z7, _, wf7⟩ := DataW.trod_int (cs := [x7]) (x := ys[7]'(by omega)) Tryd.underlying24 ((hfl 7 _ rfl).trans (List.getElem?_eq_getElem (by omega)))
 injection z7 with z7
 obtain ⟨o8, z8, _, wf8⟩ := DataW.trod_int (cs := [x8]) (x := ys[8]'(by omega)) Tryd.underlying24 ((hfl 8 _ rfl).trans (List.getElem?_eq_getElem (by omega)))
 injection z8 with z8
 obtain ⟨o9, z9, _, wf9⟩ := DataW.trod_int (cs := [x9]) (x := ys[9]'(by omega)) Tryd.underlying24 ((hfl 9 _ rfl).trans (List.getElem?_eq_getElem (by omega)))
 injection z9 with z9
 obtain ⟨o10, z10, _, wf10⟩ := DataW.trod_int (cs := [x10]) (x := ys[10]'(by omega)) Tryd.underlying24 ((hfl 10 _ rfl).trans (List.getElem?_eq_getElem (by omega)))
 injection z10 with z10
 obtain ⟨o11, z11, _, wf11⟩ := DataW.trod_int (cs := [x11]) (x := ys[11]'(by omega)) Tryd.underlying24 ((hfl 11 _ rfl).trans (List.getElem?_eq_getElem (by omega)))
 injection z11 with z11
 obtain ⟨o12, z12, _⟩ := DataW.trod_bool (cs := [x12]) (x := ys[12]'(by omega)) Tryd.underlying4 ((hfl 12 _ rfl).trans (List.getElem?_eq_getElem (by omega)))
 injection z12 with z12
 obtain ⟨o13, z13, _⟩ := DataW.trod_bool (cs := [x13]) (x := ys[13]'(by omega)) Tryd.underlying4 ((hfl 13 _ rfl).trans (List.getElem?_eq_getElem (by omega)))
 injection z13 with z13
 obtain ⟨o14, z14, _, wf14⟩ := DataW.trod_int (cs := [x14]) (x := ys[14]'(by omega)) Tryd.underlying27 ((hfl 14 _ rfl).trans (List.getElem?_eq_getElem (by omega)))
 injection z14 with z14
 obtain ⟨o15, z15, _⟩ := DataW.trod_bool (cs := [x15]) (x := ys[15]'(by omega)) Tryd.underlying4 ((hfl 15 _ rfl).trans (List.getElem?_eq_getElem (by omega)))
 injection z15 with z15
 exact ⟨o0, _, l1, _, l2, o3, o4, o5, o6, o7, o8, o9, o10, o11, o12, o13, o14, o15, by rw [z0, z3, z4, z5, z6, z7, z8, z9, z10, z11, z12, z13, z14, z15], wf0, r1, wf1, fun hs => sz1 fun n hn => hs n (mem29 1 hyl n hn), r2, wf2, fun hs => sz2 fun n hn => hs n (mem29 2 hyl n hn), wf3, wf7, wf8, wf9, wf10, wf11, wf14⟩
theorem mem26 {H : Type} {ys : List (DataW H × List MemPlace)} (i : Nat) (hy : ys.length = 18) {f : TypeId} {h : i < ys.length} (n : Nat) (hn : n ∈ (ys[i]'h).1.weights Tryd.prog f) (hf : [22, 22, 22, 23, 22, 22, 3, 3, 3, 3, 3, 3, 3, 3, 24, 24, 4, 3][i]? = some f := by rfl) : n ∈ (DataW.agg (ys.map (·.1))).weights Tryd.prog 26 := by
 unfold DataW.weights
 rw [Tryd.underlying26]
 exact DataW.weights_mem_each (j := i) hf (by rw [List.getElem?_map, List.getElem?_eq_getElem h]; rfl) n hn
theorem ctypes26 : Tryd.prog.cellTypes Tryd.prog.depth 26 = some [22, 22, 22, 23, 22, 22, 3, 3, 3, 3, 3, 3, 3, 3, 24, 24, 4, 3] := by kernel_rfl
theorem open_T26 {H : Type} {enc : TypeId × Value → H} {W : World} {r : Reach} {b0 : Nat} {v : Value} {d : DataW H} {ps : List MemPlace} (hv : Value.okWide Tryd.prog W r b0 26 v) (h : DataW.Trod enc Tryd.prog W 0 (fun _ => true) true 26 v d ps) :
    ∃ (u0 : Value) (l0 : List Int) (u1 : Value) (l1 : List Int) (u2 : Value) (l2 : List Int) (u3 : Value) (l3 : List Int) (u4 : Value) (l4 : List Int) (u5 : Value) (l5 : List Int) (o6 : Int) (o7 : Int) (o8 : Int) (o9 : Int) (o10 : Int) (o11 : Int) (o12 : Int) (o13 : Int) (o14 : Int) (o15 : Int) (o16 : Bool) (o17 : Int), v = .agg #[u0, u1, u2, u3, u4, u5, .int .i64 o6, .int .i64 o7, .int .i64 o8, .int .i64 o9, .int .i64 o10, .int .i64 o11, .int .i64 o12, .int .i64 o13, .int .u32 o14, .int .u32 o15, .bool o16, .int .i64 o17] ∧ InRow W u0 (tab inC l0) l0.length ∧ (∀ x ∈ l0, (Lit.int .i64 x).wf = true) ∧ ((∀ n ∈ d.weights Tryd.prog 26, n ≤ reachBytes) → l0.length * Tryd.prog.bytesOf 3 ≤ reachBytes) ∧ InRow W u1 (tab inC l1) l1.length ∧ (∀ x ∈ l1, (Lit.int .i64 x).wf = true) ∧ ((∀ n ∈ d.weights Tryd.prog 26, n ≤ reachBytes) → l1.length * Tryd.prog.bytesOf 3 ≤ reachBytes) ∧ InRow W u2 (tab inC l2) l2.length ∧ (∀ x ∈ l2, (Lit.int .i64 x).wf = true) ∧ ((∀ n ∈ d.weights Tryd.prog 26, n ≤ reachBytes) → l2.length * Tryd.prog.bytesOf 3 ≤ reachBytes) ∧ InRow W u3 (tab uC l3) l3.length ∧ (∀ x ∈ l3, (Lit.int .u32 x).wf = true) ∧ ((∀ n ∈ d.weights Tryd.prog 26, n ≤ reachBytes) → l3.length * Tryd.prog.bytesOf 24 ≤ reachBytes) ∧ InRow W u4 (tab inC l4) l4.length ∧ (∀ x ∈ l4, (Lit.int .i64 x).wf = true) ∧ ((∀ n ∈ d.weights Tryd.prog 26, n ≤ reachBytes) → l4.length * Tryd.prog.bytesOf 3 ≤ reachBytes) ∧ InRow W u5 (tab inC l5) l5.length ∧ (∀ x ∈ l5, (Lit.int .i64 x).wf = true) ∧ ((∀ n ∈ d.weights Tryd.prog 26, n ≤ reachBytes) → l5.length * Tryd.prog.bytesOf 3 ≤ reachBytes) ∧ (Lit.int .i64 o6).wf = true ∧ (Lit.int .i64 o7).wf = true ∧ (Lit.int .i64 o8).wf = true ∧ (Lit.int .i64 o9).wf = true ∧ (Lit.int .i64 o10).wf = true ∧ (Lit.int .i64 o11).wf = true ∧ (Lit.int .i64 o12).wf = true ∧ (Lit.int .i64 o13).wf = true ∧ (Lit.int .u32 o14).wf = true ∧ (Lit.int .u32 o15).wf = true ∧ (Lit.int .i64 o17).wf = true := by
 obtain ⟨cs, rfl, hsz⟩ := okWide_struct Tryd.underlying26 hv
 have hrow : Row.okWide Tryd.prog W r b0 26 cs := by
  have h2 := hv
  simp only [Value.okWide, Tryd.underlying26] at h2
  obtain ⟨cs', e, _, h3⟩ := h2
  injection e with e; subst e; exact h3
 obtain ⟨ts, hts, _, hc⟩ := hrow
 rw [ctypes26] at hts
 injection hts with hts; subst hts
 have hszn : cs.size = 18 := hsz.trans (by kernel_rfl)
 obtain ⟨fuel, hf⟩ := h
 obtain ⟨ys, n', _, hxe, _, hyl, hfl⟩ := DataW.trod_struct Tryd.underlying26 hf
 injection hxe with hd9 _
 subst hd9
 obtain ⟨l⟩ := cs
 obtain ⟨x0, x1, x2, x3, x4, x5, x6, x7, x8, x9, x10, x11, x12, x13, x14, x15, x16, x17, rfl⟩ : ∃ a0 a1 a2 a3 a4 a5 a6 a7 a8 a9 a10 a11 a12 a13 a14 a15 a16 a17, l = [a0, a1, a2, a3, a4, a5, a6, a7, a8, a9, a10, a11, a12, a13, a14, a15, a16, a17] := by
  match l, hszn with
  | [a0, a1, a2, a3, a4, a5, a6, a7, a8, a9, a10, a11, a12, a13, a14, a15, a16, a17], _ => exact ⟨a0, a1, a2, a3, a4, a5, a6, a7, a8, a9, a10, a11, a12, a13, a14, a15, a16, a17, rfl⟩
 have hyln : ys.length = 18 := hyl
 obtain ⟨u0_, e0, k0⟩ := hc 0 x0 rfl
 obtain ⟨u1_, e1, k1⟩ := hc 1 x1 rfl
 obtain ⟨u2_, e2, k2⟩ := hc 2 x2 rfl
 obtain ⟨u3_, e3, k3⟩ := hc 3 x3 rfl
 obtain ⟨u4_, e4, k4⟩ := hc 4 x4 rfl
 obtain ⟨u5_, e5, k5⟩ := hc 5 x5 rfl
 obtain ⟨u6_, e6, k6⟩ := hc 6 x6 rfl
 obtain ⟨u7_, e7, k7⟩ := hc 7 x7 rfl
 obtain ⟨u8_, e8, k8⟩ := hc 8 x8 rfl
 obtain ⟨u9_, e9, k9⟩ := hc 9 x9 rfl
 obtain ⟨u10_, e10, k10⟩ := hc 10 x10 rfl
 obtain ⟨u11_, e11, k11⟩ := hc 11 x11 rfl
 obtain ⟨u12_, e12, k12⟩ := hc 12 x12 rfl
 obtain ⟨u13_, e13, k13⟩ := hc 13 x13 rfl
 obtain ⟨u14_, e14, k14⟩ := hc 14 x14 rfl
 obtain ⟨u15_, e15, k15⟩ := hc 15 x15 rfl
 obtain ⟨u16_, e16, k16⟩ := hc 16 x16 rfl
 obtain ⟨u17_, e17, k17⟩ := hc 17 x17 rfl
 cases e0; cases e1; cases e2; cases e3; cases e4; cases e5; cases e6; cases e7; cases e8; cases e9; cases e10; cases e11; cases e12; cases e13; cases e14; cases e15; cases e16; cases e17
 have w0 : Value.okWide Tryd.prog W r b0 22 x0 := by simp only [Value.okWide, Tryd.underlying22]; exact k0
 have w1 : Value.okWide Tryd.prog W r b0 22 x1 := by simp only [Value.okWide, Tryd.underlying22]; exact k1
 have w2 : Value.okWide Tryd.prog W r b0 22 x2 := by simp only [Value.okWide, Tryd.underlying22]; exact k2
 have w3 : Value.okWide Tryd.prog W r b0 23 x3 := by simp only [Value.okWide, Tryd.underlying23]; exact k3
 have w4 : Value.okWide Tryd.prog W r b0 22 x4 := by simp only [Value.okWide, Tryd.underlying22]; exact k4
 have w5 : Value.okWide Tryd.prog W r b0 22 x5 := by simp only [Value.okWide, Tryd.underlying22]; exact k5
 have w6 : Value.okWide Tryd.prog W r b0 3 x6 := by simp only [Value.okWide, Tryd.underlying3]; exact k6
 have w7 : Value.okWide Tryd.prog W r b0 3 x7 := by simp only [Value.okWide, Tryd.underlying3]; exact k7
 have w8 : Value.okWide Tryd.prog W r b0 3 x8 := by simp only [Value.okWide, Tryd.underlying3]; exact k8
 have w9 : Value.okWide Tryd.prog W r b0 3 x9 := by simp only [Value.okWide, Tryd.underlying3]; exact k9
 have w10 : Value.okWide Tryd.prog W r b0 3 x10 := by simp only [Value.okWide, Tryd.underlying3]; exact k10
 have w11 : Value.okWide Tryd.prog W r b0 3 x11 := by simp only [Value.okWide, Tryd.underlying3]; exact k11
 have w12 : Value.okWide Tryd.prog W r b0 3 x12 := by simp only [Value.okWide, Tryd.underlying3]; exact k12
 have w13 : Value.okWide Tryd.prog W r b0 3 x13 := by simp only [Value.okWide, Tryd.underlying3]; exact k13
 have w14 : Value.okWide Tryd.prog W r b0 24 x14 := by simp only [Value.okWide, Tryd.underlying24]; exact k14
 have w15 : Value.okWide Tryd.prog W r b0 24 x15 := by simp only [Value.okWide, Tryd.underlying24]; exact k15
 have w16 : Value.okWide Tryd.prog W r b0 4 x16 := by simp only [Value.okWide, Tryd.underlying4]; exact k16
 have w17 : Value.okWide Tryd.prog W r b0 3 x17 := by simp only [Value.okWide, Tryd.underlying3]; exact k17
 obtain ⟨aa0, qq0, mm0, rfl⟩ := okWide_slice Tryd.underlying22 w0
 obtain ⟨aa1, qq1, mm1, rfl⟩ := okWide_slice Tryd.underlying22 w1
 obtain ⟨aa2, qq2, mm2, rfl⟩ := okWide_slice Tryd.underlying22 w2
 obtain ⟨aa3, qq3, mm3, rfl⟩ := okWide_slice Tryd.underlying23 w3
 obtain ⟨aa4, qq4, mm4, rfl⟩ := okWide_slice Tryd.underlying22 w4
 obtain ⟨aa5, qq5, mm5, rfl⟩ := okWide_slice Tryd.underlying22 w5
 obtain ⟨l0, r0, wf0, sz0⟩ := in_ints_w Tryd.underlying22 Tryd.underlying3 (by kernel_rfl) (ec := inC) (fun _ => rfl) (d := (ys[0]'(by omega)).1) (ps := (ys[0]'(by omega)).2) w0 ⟨n', (hfl 0 _ rfl).trans (List.getElem?_eq_getElem (by omega))⟩
 obtain ⟨l1, r1, wf1, sz1⟩ := in_ints_w Tryd.underlying22 Tryd.underlying3 (by kernel_rfl) (ec := inC) (fun _ => rfl) (d := (ys[1]'(by omega)).1) (ps := (ys[1]'(by omega)).2) w1 ⟨n', (hfl 1 _ rfl).trans (List.getElem?_eq_getElem (by omega))⟩
 obtain ⟨l2, r2, wf2, sz2⟩ := in_ints_w Tryd.underlying22 Tryd.underlying3 (by kernel_rfl) (ec := inC) (fun _ => rfl) (d := (ys[2]'(by omega)).1) (ps := (ys[2]'(by omega)).2) w2 ⟨n', (hfl 2 _ rfl).trans (List.getElem?_eq_getElem (by omega))⟩
 obtain ⟨l3, r3, wf3, sz3⟩ := in_ints_w Tryd.underlying23 Tryd.underlying24 (by kernel_rfl) (ec := uC) (fun _ => rfl) (d := (ys[3]'(by omega)).1) (ps := (ys[3]'(by omega)).2) w3 ⟨n', (hfl 3 _ rfl).trans (List.getElem?_eq_getElem (by omega))⟩
 obtain ⟨l4, r4, wf4, sz4⟩ := in_ints_w Tryd.underlying22 Tryd.underlying3 (by kernel_rfl) (ec := inC) (fun _ => rfl) (d := (ys[4]'(by omega)).1) (ps := (ys[4]'(by omega)).2) w4 ⟨n', (hfl 4 _ rfl).trans (List.getElem?_eq_getElem (by omega))⟩
 obtain ⟨l5, r5, wf5, sz5⟩ := in_ints_w Tryd.underlying22 Tryd.underlying3 (by kernel_rfl) (ec := inC) (fun _ => rfl) (d := (ys[5]'(by omega)).1) (ps := (ys[5]'(by omega)).2) w5 ⟨n', (hfl 5 _ rfl).trans (List.getElem?_eq_getElem (by omega))⟩
 obtain ⟨o6, z6, _, wf6⟩ := DataW.trod_int (cs := [x6]) (x := ys[6]'(by omega)) Tryd.underlying3 ((hfl 6 _ rfl).trans (List.getElem?_eq_getElem (by omega)))
 injection z6 with z6
 obtain ⟨o7, z7, _, wf7⟩ := DataW.trod_int (cs := [x7]) (x := ys[7]'(by omega)) Tryd.underlying3 ((hfl 7 _ rfl).trans (List.getElem?_eq_getElem (by omega)))
 injection z7 with z7
 obtain ⟨o8, z8, _, wf8⟩ := DataW.trod_int (cs := [x8]) (x := ys[8]'(by omega)) Tryd.underlying3 ((hfl 8 _ rfl).trans (List.getElem?_eq_getElem (by omega)))
 injection z8 with z8
 obtain ⟨o9, z9, _, wf9⟩ := DataW.trod_int (cs := [x9]) (x := ys[9]'(by omega)) Tryd.underlying3 ((hfl 9 _ rfl).trans (List.getElem?_eq_getElem (by omega)))
 injection z9 with z9
 obtain ⟨o10, z10, _, wf10⟩ := DataW.trod_int (cs := [x10]) (x := ys[10]'(by omega)) Tryd.underlying3 ((hfl 10 _ rfl).trans (List.getElem?_eq_getElem (by omega)))
 injection z10 with z10
 obtain ⟨o11, z11, _, wf11⟩ := DataW.trod_int (cs := [x11]) (x := ys[11]'(by omega)) Tryd.underlying3 ((hfl 11 _ rfl).trans (List.getElem?_eq_getElem (by omega)))
 injection z11 with z11
 obtain ⟨o12, z12, _, wf12⟩ := DataW.trod_int (cs := [x12]) (x := ys[12]'(by omega)) Tryd.underlying3 ((hfl 12 _ rfl).trans (List.getElem?_eq_getElem (by omega)))
 injection z12 with z12
 obtain ⟨o13, z13, _, wf13⟩ := DataW.trod_int (cs := [x13]) (x := ys[13]'(by omega)) Tryd.underlying3 ((hfl 13 _ rfl).trans (List.getElem?_eq_getElem (by omega)))
 injection z13 with z13
 obtain ⟨o14, z14, _, wf14⟩ := DataW.trod_int (cs := [x14]) (x := ys[14]'(by omega)) Tryd.underlying24 ((hfl 14 _ rfl).trans (List.getElem?_eq_getElem (by omega)))
 injection z14 with z14
 obtain ⟨o15, z15, _, wf15⟩ := DataW.trod_int (cs := [x15]) (x := ys[15]'(by omega)) Tryd.underlying24 ((hfl 15 _ rfl).trans (List.getElem?_eq_getElem (by omega)))
 injection z15 with z15
 obtain ⟨o16, z16, _⟩ := DataW.trod_bool (cs := [x16]) (x := ys[16]'(by omega)) Tryd.underlying4 ((hfl 16 _ rfl).trans (List.getElem?_eq_getElem (by omega)))
 injection z16 with z16
 obtain ⟨o17, z17, _, wf17⟩ := DataW.trod_int (cs := [x17]) (x := ys[17]'(by omega)) Tryd.underlying3 ((hfl 17 _ rfl).trans (List.getElem?_eq_getElem (by omega)))
 injection z17 with z17
 exact ⟨_, l0, _, l1, _, l2, _, l3, _, l4, _, l5, o6, o7, o8, o9, o10, o11, o12, o13, o14, o15, o16, o17, by rw [z6, z7, z8, z9, z10, z11, z12, z13, z14, z15, z16, z17], r0, wf0, fun hs => sz0 fun n hn => hs n (mem26 0 hyl n hn), r1, wf1, fun hs => sz1 fun n hn => hs n (mem26 1 hyl n hn), r2, wf2, fun hs => sz2 fun n hn => hs n (mem26 2 hyl n hn), r3, wf3, fun hs => sz3 fun n hn => hs n (mem26 3 hyl n hn), r4, wf4, fun hs => sz4 fun n hn => hs n (mem26 4 hyl n hn), r5, wf5, fun hs => sz5 fun n hn => hs n (mem26 5 hyl n hn), wf6, wf7, wf8, wf9, wf10, wf11, wf12, wf13, wf14, wf15, wf17⟩
def laid3 : List (String × DataW Unit) := [("math/bits.deBruijn32tab", Rows.laid_math_bits_deBruijn32tab), ("math/bits.deBruijn64tab", Rows.laid_math_bits_deBruijn64tab), ("internal/strconv.uint64pow10", Rows.laid_internal_strconv_uint64pow10)]
theorem gPow : Tryd.prog.globalNamed "internal/strconv.uint64pow10" = some 0 := by kernel_rfl
theorem door_met (os : Os) (args : Array Value) : laidMetH Tryd.prog laid3 ((World.doorLaid Tryd.prog 400 os).forCall (fun _ _ => 0) ⟨#[], args, []⟩).memory := by
 rw [MakeChecks.laidMetH_plain _ _ _ (by kernel_rfl)]
 exact laidMet_of_run' 8 (by kernel_rfl) (by kernel_rfl)
theorem tab_of_laid {W : World} (h : laidMetH Tryd.prog laid3 W) : Lib.TabIs Tryd.prog W "internal/strconv.uint64pow10" .u64 Lib.pow10Tab := by
 rw [MakeChecks.laidMetH_plain _ _ _ (by kernel_rfl)] at h
 exact Lib.tabIs_of_head gPow (by kernel_rfl) Tryd.underlying117 Tryd.underlying27 (by kernel_rfl) (by kernel_rfl) (show laidMet Tryd.prog (("internal/strconv.uint64pow10", Lib.tabData .u64 Lib.pow10Tab) :: []) W from h.tail.tail)
theorem tb_of {W : World} (h : Lib.TabIs Tryd.prog W "internal/strconv.uint64pow10" .u64 Lib.pow10Tab) : @Tb ⟨W, W.heap.size⟩ := by
 refine @Tb.mk ⟨W, W.heap.size⟩ fun w hw => ?_
 have h0 : (0 : Nat) < W.heap.size := by
  unfold Lib.TabIs World.var? at h
  rw [gPow] at h
  rcases Nat.lt_or_ge 0 W.heap.size with h' | h'
  ·exact h'
  ·simp only [Option.bind_some] at h
   rw [Array.getElem?_eq_none h'] at h; cases h
 unfold Lib.TabIs World.var? at h ⊢
 rw [gPow] at h ⊢
 simp only [Option.bind_some] at h ⊢
 rw [@OnBs.low ⟨W, W.heap.size⟩ w hw 0 h0]
 exact h
end Ls
end Go.Proofs.YtgpphhdndmdlgaaDoor
