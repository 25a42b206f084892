/- Chapter 22: arguments that come in. -/
import Derived.Test.YtihacfclecanjaaJc
import Derived.SizedLaws
set_option linter.unusedVariables false
set_option linter.unusedSimpArgs false
namespace Go.Proofs.Ytihacfclecanjaa
open Go Go.Ev Go.RowKit Go.ChangeShapes Go.WideShapes Go.ChangeAt
set_option maxRecDepth 100000
namespace Ls
theorem own : ownKnob Try.prog.godebug = none := by kernel_rfl
theorem laidOut : laidOutB Try.prog = true := by kernel_rfl
theorem in_ints_w {P : Program} {H : Type} {enc : TypeId × Value → H} {W : World} {r : Reach} {b0 : Nat} {t e : TypeId} {kd : IntKind} (ht : P.underlying t = some (.slice e)) (he : P.underlying e = some (.int kd)) (h1 : P.cellsOf e = 1) {ec : Int → List Value} (hec : ∀ x, ec x = [.int kd x]) {v : Value} {d : DataW H} {ps : List MemPlace} (hv : Value.okWide P W r b0 t v) (h : DataW.Trod enc P W 0 (fun _ => true) true t v d ps) :
    ∃ l : List Int, InRow W v (tab ec l) l.length ∧ (∀ x ∈ l, (Lit.int kd x).wf = true) ∧ ((∀ n ∈ d.weights P t, n ≤ reachBytes) → l.length * P.bytesOf e ≤ reachBytes) := by
 have hec2 : ec = fun x => [.int kd x] := funext hec
 subst hec2
 have key : ∀ (A : Option Addr) (cap : Nat) (l : List Int), v = .slice A l.length cap → RowW W A (l.map (Value.int kd)) → l.length ≤ cap → cap ≤ maxLen → (A = none → cap = 0) → InRow W v (tab (fun x => [.int kd x]) l) l.length := fun A cap l e q hl hm hc => by
  refine ⟨A, cap, e, hc, by rw [tab_map]; exact q, fun hA => ?_, hl, hm⟩;have := hc hA; omega
 obtain ⟨a0, len, cap, rfl⟩ := okWide_slice ht hv;obtain ⟨fuel, hf⟩ := h;rcases open_ints ht he h1 hf with ⟨hcs, hx⟩ | ⟨a, len', cap', zs, hcs, _, hl, hm, hz, hx, hcell, hwz⟩
 ·simp [Value.cells] at hcs;obtain ⟨rfl, rfl, rfl⟩ := hcs;exact ⟨[], key none 0 [] rfl ⟨.inl ⟨rfl, rfl⟩⟩ (by simp) (by unfold maxLen; omega) (fun _ => rfl), fun _ h => (by cases h), fun _ => by simp⟩
 ·simp [Value.cells] at hcs;obtain ⟨rfl, rfl, rfl⟩ := hcs;simp only [if_true] at hz;have hlen : (zs.take len).length = len := by simp; omega
  obtain ⟨hspot, hb⟩ := has_block ht hv;refine ⟨zs.take len, key (some a) cap (zs.take len) (by rw [hlen]) (RowW.of_cells hspot hb fun i x hx => ?_) (by rw [hlen]; exact hl) hm (fun h => by cases h), fun x hx => hwz x (List.mem_of_mem_take hx), fun hs => ?_⟩
  ·rw [List.getElem?_map, aS] at hx;split at hx
   ·rename_i hi;have hc := hcell i (by omega);rw [hc, ao];cases hz2 : zs[i]? with
    | none => rw [hz2] at hx; cases hx
    | some y => rw [hz2] at hx; exact hx
   ·cases hx
  ·injection hx with hd _;subst hd;have := hs (((lits (H := H) kd (zs.take len)).length + (lits (H := H) kd (zs.drop len)).length) * P.bytesOf e) (by simp [DataW.weights, ht]);refine az (eL _ ?_) this;simp [lits]
theorem in_int {P : Program} {H : Type} {enc : TypeId × Value → H} {W : World} {r : Reach} {b0 : Nat} {t : TypeId} {k : IntKind} (ht : P.underlying t = some (.int k)) {v : Value} {d : DataW H} {ps : List MemPlace} (hv : Value.okWide P W r b0 t v) (h : DataW.Trod enc P W 0 (fun _ => true) true t v d ps) : ∃ n, v = .int k n ∧ (Lit.int k n).wf = true := by
 obtain ⟨fuel, hf⟩ := h;obtain ⟨n, e, _, w⟩ := DataW.trod_int ht hf;simp only [Value.okWide, ht] at hv;cases v with
 | int k' m => simp [Value.cells] at e; obtain ⟨rfl, rfl⟩ := e; exact ⟨_, rfl, w⟩
 | agg cs => simp [Cell.okWide, Cell.ok, ht] at hv
 | _ => simp [Value.cells] at e
theorem i64_of {l : List Int} (h : ∀ x ∈ l, (Lit.int .i64 x).wf = true) : ∀ x ∈ l, i64B x = true := fun x hx => by
 have := wf_i64 (h x hx);simp [i64B]; omega
theorem V32_of {l : List Int} (h : ∀ x ∈ l, (Lit.int .u32 x).wf = true) : ∀ x ∈ l, 0 ≤ x ∧ x < 4294967296 := fun x hx => wf_u32 (h x hx)
theorem len_max {W : World} {v : Value} {cs : List Value} {n : Nat} (h : InRow W v cs n) : n ≤ 9223372036854775807 := by have := h.len; unfold maxLen at this; omega
theorem mem51 {H : Type} {ys : List (DataW H × List MemPlace)} (i : Nat) (hy : ys.length = 4) {f : TypeId} {h : i < ys.length} (n : Nat) (hn : n ∈ (ys[i]'h).1.weights Try.prog f) (hf : [26, 26, 26, 3][i]? = some f := by rfl) : n ∈ (DataW.agg (ys.map (·.1))).weights Try.prog 51 := by
 unfold DataW.weights;rw [Try.underlying51];exact DataW.weights_mem_each (j := i) hf (by rw [List.getElem?_map, ag h]; rfl) n hn
theorem ctypes51 : Try.prog.cellTypes Try.prog.depth 51 = some [26, 26, 26, 3] := by kernel_rfl
theorem open_T51 {H : Type} {enc : TypeId × Value → H} {W : World} {r : Reach} {b0 : Nat} {v : Value} {d : DataW H} {ps : List MemPlace} (hv : Value.okWide Try.prog W r b0 51 v) (h : DataW.Trod enc Try.prog W 0 (fun _ => true) true 51 v d ps) :
    ∃ (u0 : Value) (l0 : List Int) (u1 : Value) (l1 : List Int) (u2 : Value) (l2 : List Int) (o3 : Int), v = .agg #[u0, u1, u2, .int .i64 o3] ∧ InRow W u0 (tab inC l0) l0.length ∧ (∀ x ∈ l0, (Lit.int .i64 x).wf = true) ∧ ((∀ n ∈ d.weights Try.prog 51, n ≤ reachBytes) → l0.length * Try.prog.bytesOf 3 ≤ reachBytes) ∧ InRow W u1 (tab inC l1) l1.length ∧ (∀ x ∈ l1, (Lit.int .i64 x).wf = true) ∧ ((∀ n ∈ d.weights Try.prog 51, n ≤ reachBytes) → l1.length * Try.prog.bytesOf 3 ≤ reachBytes) ∧ InRow W u2 (tab inC l2) l2.length ∧ (∀ x ∈ l2, (Lit.int .i64 x).wf = true) ∧ ((∀ n ∈ d.weights Try.prog 51, n ≤ reachBytes) → l2.length * Try.prog.bytesOf 3 ≤ reachBytes) ∧ (Lit.int .i64 o3).wf = true := by
 obtain ⟨cs, rfl, hsz⟩ := okWide_struct Try.underlying51 hv
 have hrow : Row.okWide Try.prog W r b0 51 cs := by
  have h2 := hv;simp only [Value.okWide, Try.underlying51] at h2;obtain ⟨cs', e, _, h3⟩ := h2;injection e with e; subst e; exact h3
 obtain ⟨ts, hts, _, hc⟩ := hrow;rw [ctypes51] at hts;injection hts with hts; subst hts;have hszn : cs.size = 4 := hsz.trans (by kernel_rfl);obtain ⟨fuel, hf⟩ := h;obtain ⟨ys, n', _, hxe, _, hyl, hfl⟩ := DataW.trod_struct Try.underlying51 hf;injection hxe with hd9 _;subst hd9;obtain ⟨l⟩ := cs
 obtain ⟨x0, x1, x2, x3, rfl⟩ : ∃ a0 a1 a2 a3, l = [a0, a1, a2, a3] := by
  match l, hszn with
  | [a0, a1, a2, a3], _ => exact ⟨a0, a1, a2, a3, rfl⟩
 have hyln : ys.length = 4 := hyl;obtain ⟨u0_, e0, k0⟩ := hc 0 x0 rfl;obtain ⟨u1_, e1, k1⟩ := hc 1 x1 rfl;obtain ⟨u2_, e2, k2⟩ := hc 2 x2 rfl;obtain ⟨u3_, e3, k3⟩ := hc 3 x3 rfl;cases e0; cases e1; cases e2; cases e3;have w0 : Value.okWide Try.prog W r b0 26 x0 := by simp only [Value.okWide, Try.underlying26]; exact k0
 have w1 : Value.okWide Try.prog W r b0 26 x1 := by simp only [Value.okWide, Try.underlying26]; exact k1
 have w2 : Value.okWide Try.prog W r b0 26 x2 := by simp only [Value.okWide, Try.underlying26]; exact k2
 have w3 : Value.okWide Try.prog W r b0 3 x3 := by simp only [Value.okWide, Try.underlying3]; exact k3
 obtain ⟨aa0, qq0, mm0, rfl⟩ := okWide_slice Try.underlying26 w0;obtain ⟨aa1, qq1, mm1, rfl⟩ := okWide_slice Try.underlying26 w1;obtain ⟨aa2, qq2, mm2, rfl⟩ := okWide_slice Try.underlying26 w2;obtain ⟨l0, r0, wf0, sz0⟩ := in_ints_w Try.underlying26 Try.underlying3 (by kernel_rfl) (ec := inC) (fun _ => rfl) (d := (ys[0]'(by omega)).1) (ps := (ys[0]'(by omega)).2) w0 ⟨n', (hfl 0 _ rfl).trans (ag (by omega))⟩;obtain ⟨l1, r1, wf1, sz1⟩ := in_ints_w Try.underlying26 Try.underlying3 (by kernel_rfl) (ec := inC) (fun _ => rfl) (d := (ys[1]'(by omega)).1) (ps := (ys[1]'(by omega)).2) w1 ⟨n', (hfl 1 _ rfl).trans (ag (by omega))⟩;obtain ⟨l2, r2, wf2, sz2⟩ := in_ints_w Try.underlying26 Try.underlying3 (by kernel_rfl) (ec := inC) (fun _ => rfl) (d := (ys[2]'(by omega)).1) (ps := (ys[2]'(by omega)).2) w2 ⟨n', (hfl 2 _ rfl).trans (ag (by omega))⟩;obtain ⟨o3, z3, _, wf3⟩ := DataW.trod_int (cs := [x3]) (x := ys[3]'(by omega)) Try.underlying3 ((hfl 3 _ rfl).trans (ag (by omega)));injection z3 with z3;exact ⟨_, l0, _, l1, _, l2, o3, by rw [z3], r0, wf0, fun hs => sz0 fun n hn => hs n (mem51 0 hyl n hn), r1, wf1, fun hs => sz1 fun n hn => hs n (mem51 1 hyl n hn), r2, wf2, fun hs => sz2 fun n hn => hs n (mem51 2 hyl n hn), wf3⟩
end Ls
end Go.Proofs.Ytihacfclecanjaa
