/- Arguments that come in: an instruction, a slice of bytes; the memory that the evaluator sees of them. -/
import Derived.Test.YtndjckfnggnddaaDoorGw
import Derived.Test.YtndjckfnggnddaaDoorGl
namespace Go.Proofs.YtndjckfnggnddaaDoor
open Go Go.Ev Go.ChangeShapes Go.WideShapes Go.ChangeAt Go.RowKit
set_option linter.unusedVariables false
set_option linter.unusedSimpArgs false
set_option maxRecDepth 100000
namespace Hc
theorem cells_of {w : World} {b off : Nat} {x : Value} (h : w.cell? ⟨b, off, none⟩ = some x) : ∃ cs e fz, w.heap[b]? = some (.cells cs e fz) ∧ cs[off]? = some x := by
  unfold World.cell? at h
  split at h
  · rename_i cs e fz hc
    exact ⟨cs, e, fz, hc, by simpa using h⟩
  · cases h
/-- A slice of bytes in a world. -/
structure BytsAt (W : World) (A : Option Addr) (l : List Int) : Prop where
  at_ : (A = none ∧ l = []) ∨ ∃ b off cs e fz, A = some ⟨b, off, none⟩ ∧ W.heap[b]? = some (.cells cs e fz) ∧ (l = [] ∨ off + l.length ≤ cs.size) ∧ ∀ k (h : k < l.length), cs[off + k]? = some (.int .u8 l[k])
theorem open_byts {H : Type} {enc : TypeId × Value → H} {W : World} {b0 : Nat} {v : Value} {d : DataW H} {ps : List MemPlace} (hv : Value.okWide Tryd.prog W .any b0 28 v) (h : DataW.Trod enc Tryd.prog W 0 (fun _ => true) true 28 v d ps) :
    ∃ (A : Option Addr) (cap : Nat) (l : List Int), v = .slice A l.length cap ∧ BytsAt W A l ∧ (∀ x ∈ l, 0 ≤ x ∧ x < 256) ∧ (l.length ≤ cap ∧ cap ≤ maxLen) ∧ (l = [] ∨ ∃ el rs : List (DataW H), d = .slice el rs ∧ el.length = l.length) := by
  obtain ⟨a0, len, cap, rfl⟩ := okWide_slice Tryd.underlying28 hv
  obtain ⟨fuel, hf⟩ := h
  rcases open_ints Tryd.underlying28 Tryd.underlying5 (by kernel_rfl) hf with ⟨hcs, hx⟩ | ⟨a, len', cap', zs, hcs, _, hl, hm, hz, hx, hcell, hwz⟩
  · simp [Value.cells] at hcs
    obtain ⟨rfl, rfl, rfl⟩ := hcs
    exact ⟨none, 0, [], rfl, ⟨.inl ⟨rfl, rfl⟩⟩, fun _ h => (by cases h), ⟨by simp, by unfold maxLen; omega⟩, .inl rfl⟩
  · simp [Value.cells] at hcs
    obtain ⟨rfl, rfl, rfl⟩ := hcs
    simp only [if_true] at hz
    have hlen : (zs.take len).length = len := by simp; omega
    simp only [Prod.mk.injEq] at hx
    refine ⟨some a, cap, zs.take len, by rw [hlen], ?_, fun x hx => ?_, ⟨by rw [hlen]; exact hl, hm⟩, .inr ⟨_, _, hx.1, by simp [lits]⟩⟩
    · have hs : W.has Tryd.prog .any b0 a 5 cap := by
        have h2 := hv
        simp only [Value.okWide, Tryd.underlying28, Cell.okWide, Cell.ok] at h2
        exact h2.2.2
      obtain ⟨_, hspot, row, cells, hsh, _⟩ := hs
      obtain ⟨b, off, spot⟩ := a
      have hspot : spot = none := hspot
      subst hspot
      obtain ⟨cs, e, fz, hb⟩ : ∃ cs e fz, W.heap[b]? = some (.cells cs e fz) := by
        unfold World.shape? at hsh
        split at hsh
        · rename_i c e f hc; exact ⟨c, e, f, hc⟩
        · cases hsh
      have hall : ∀ k, k < len → cs[off + k]? = some (.int .u8 (zs.getD k 0)) := fun k hk => by
        have hc := hcell k (by omega)
        rw [Addr.add_lit] at hc
        obtain ⟨cs', e', fz', h3, h4⟩ := cells_of hc
        rw [hb] at h3
        injection h3 with h3
        injection h3 with h5 h6 h7
        subst h5
        exact h4
      by_cases h0 : len = 0
      · subst h0
        exact ⟨.inr ⟨b, off, cs, e, fz, rfl, hb, .inl (by simp), fun k hk => by simp at hk⟩⟩
      · have hle : off + len ≤ cs.size := by
          have := (Array.getElem?_eq_some_iff.1 (hall (len - 1) (by omega))).1
          omega
        refine ⟨.inr ⟨b, off, cs, e, fz, rfl, hb, .inr (by rw [hlen]; exact hle), fun k hk => ?_⟩⟩
        rw [hlen] at hk
        rw [hall k hk, List.getElem_take, List.getD_eq_getElem?_getD, List.getElem?_eq_getElem (by omega)]
        rfl
    · have := bounds_u8 (hwz x (List.mem_of_mem_take hx))
      omega
def one5 (cells : List Value) : Heap := ⟨.nd .lf (some ⟨cells, 5, true⟩) .lf, 1⟩
theorem one5_get {cells : List Value} {x : Nat} {o : Ob} (hx : (one5 cells).get x = some o) : x = 0 ∧ o = ⟨cells, 5, true⟩ := by
  cases x with
  | zero => simp [one5, Heap.get, Tr.get] at hx; exact ⟨rfl, hx.symm⟩
  | succ x =>
    simp only [one5, Heap.get, Tr.get] at hx
    exfalso
    revert hx
    cases (x % 2).beq 0 <;> simp only [cond_true, cond_false] <;> cases x / 2 <;> simp [Tr.get]
theorem one5_wr {cells : List Value} {x : Nat} (h : (one5 cells).wr x) : False := by
  obtain ⟨o, ho, hro⟩ := h
  obtain ⟨_, rfl⟩ := one5_get ho
  cases hro
theorem one5_wf (cells : List Value) : HWf (one5 cells) := fun x hx => by
  obtain ⟨o, ho⟩ := Option.isSome_iff_exists.1 hx
  rw [(one5_get ho).1]; show 0 < 1; omega
theorem size5 : T14.size 5 = some 1 := by kernel_rfl
theorem one5_rep [Bs] [Tb] {W : World} (hw : OnBs W) {cells : List Value} {b off : Nat} {cs : Array Value} {e : TypeId} {fz : Nat × Nat} (hb : W.heap[b]? = some (.cells cs e fz)) (hle : off + cells.length ≤ cs.size) (hall : ∀ i x, cells[i]? = some x → cs[off + i]? = some x) (hp : ∀ x ∈ cells, plain x = true) :
    Rep Tryd.prog (fun x => if x = 0 then some ⟨b, off, 0, 1⟩ else none) (one5 cells) W := by
  obtain ⟨inf, hinf, hsz⟩ := progOk14.tab.size 5 1 size5
  refine ⟨⟨fun x L hx => ?_, fun x L o hx ho => ?_, fun b1 b2 L1 L2 k1 k2 k3 k4 k5 => ?_⟩, ⟨hw, fun x L hx h => (one5_wr h).elim⟩⟩
  · by_cases e : x = 0
    · rw [e]; show 0 < 1; omega
    · simp [e] at hx
  · obtain ⟨rfl, rfl⟩ := one5_get ho
    simp at hx
    subst hx
    exact ⟨cs, e, fz, hb, hle, fun i x hx => ⟨x, hall i x hx, .same (hp x (List.mem_of_getElem? hx))⟩, fun h => by simp at h, inf, hinf, hsz⟩
  · exact (one5_wr k3).elim
theorem none_rep [Bs] {W : World} (hw : OnBs W) : Rep Tryd.prog (fun _ => none) ⟨.lf, 0⟩ W :=
  ⟨⟨fun b L hb => (by cases hb), fun b L o hb => (by cases hb), fun b1 b2 L1 L2 hb => (by cases hb)⟩, ⟨hw, fun b L hb => (by cases hb)⟩⟩
theorem none_wf : HWf ⟨.lf, 0⟩ := fun b hb => by simp [Heap.get] at hb; cases b <;> simp [Tr.get] at hb
/-- The memory that the evaluator sees of a slice of bytes that came in. -/
theorem rep_byts [Bs] [Tb] {W : World} (hw : OnBs W) {A : Option Addr} {l : List Int} {cap : Nat} (hA : BytsAt W A l) (hb : ∀ x ∈ l, 0 ≤ x ∧ x < 256) (hcap : cap ≤ maxLen) :
    ∃ (a : Option Addr) (m : Map) (H : Heap), HWf H ∧ Rep Tryd.prog m H W ∧ VR m (.slice a l.length cap) (.slice A l.length cap) ∧ Byts H (.slice a l.length cap) l ∧ (∀ b, ¬ H.wr b) := by
  have hcu : cap < Go.Ev.unk := by unfold maxLen at hcap; unfold Go.Ev.unk; omega
  rcases hA.at_ with ⟨rfl, rfl⟩ | ⟨b, off, cs, e, fz, rfl, h1, h2, h3⟩
  · exact ⟨none, _, _, none_wf, none_rep hw, .same rfl, ⟨.inl ⟨cap, rfl, rfl⟩⟩, fun b hb => by obtain ⟨o, ho, _⟩ := hb; simp [Heap.get] at ho; cases b <;> simp [Tr.get] at ho⟩
  · rcases h2 with rfl | h2
    · exact ⟨some ⟨0, off, none⟩, _, _, one5_wf [], one5_rep hw (off := 0) h1 (by simp) (fun i x hx => by simp at hx) (fun x hx => by cases hx), .slice (L := ⟨b, 0, 0, 1⟩) (by simp) (.inl ⟨hcu, rfl, (Nat.zero_add _).symm⟩),
        ⟨.inr ⟨0, off, cap, [], 5, true, rfl, rfl, by show 0 < 1; omega, fun k hk => by simp at hk⟩⟩, fun b h => one5_wr h⟩
    · refine ⟨some ⟨0, 0, none⟩, _, _, one5_wf (l.map (Value.int .u8)), one5_rep hw (off := off) h1 (by simpa using h2) (fun i x hx => ?_) (fun x hx => ?_), .slice (L := ⟨b, off, 0, 1⟩) (by simp) (.inl ⟨hcu, rfl, rfl⟩),
        ⟨.inr ⟨0, 0, cap, l.map (Value.int .u8), 5, true, rfl, rfl, by show 0 < 1; omega, fun k hk => ⟨?_, hb _ (List.getElem_mem hk)⟩⟩⟩, fun b h => one5_wr h⟩
      · rw [List.getElem?_map] at hx
        rcases Nat.lt_or_ge i l.length with hi | hi
        · rw [List.getElem?_eq_getElem hi] at hx
          rw [h3 i hi]; exact hx
        · rw [List.getElem?_eq_none hi] at hx; cases hx
      · obtain ⟨y, _, rfl⟩ := List.mem_map.1 hx
        rfl
      · rw [List.getElem?_map, show 0 + k * 1 = k by omega, List.getElem?_eq_getElem hk]; rfl
theorem calls_ro [Bs] {P : Program} {T : Tab} (hP : ProgOk P T) {f : FuncId} {args args' : Array Value} {v : Value} {m : Map} {H : Heap} {W : World} (h : ACall P T f args H fun r _ => r = v) (hv : closed v = true) (hwf : HWf H) (hr : Rep P m H W) (hro : ∀ b, ¬ H.wr b) (ha : VRs m args.toList args'.toList) : Calls P f args' W fun e w' => e = .returned v ∧ Quiet W w' := by
  refine (h.calls hP hwf hr ha).mono fun e w' hp => ?_
  obtain ⟨v1, H', rfl, v', m', rfl, hv', _, hf⟩ := hp
  rw [hv'.closed_eq hv]
  exact ⟨rfl, hf.os, hf.tape, hf.output, hf.size, fun c hc => hf.keep c hc (by rintro ⟨b, L, _, hb, _⟩; exact hro b hb)⟩
theorem weigh_byts {H : Type} {d : DataW H} {el rs : List (DataW H)} (hd : d = .slice el rs) (h : (d.weights Tryd.prog 28).all (· ≤ reachBytes) = true) : el.length ≤ 140737488351232 := by
  subst hd
  have b5 : Tryd.prog.bytesOf 5 = 1 := by kernel_rfl
  simp only [DataW.weights, Tryd.underlying28, List.all_cons, Bool.and_eq_true, decide_eq_true_eq, b5, reachBytes] at h
  have := of_decide_eq_true h.1
  omega
/-- An instruction that came in. -/
theorem open_instr {H : Type} {enc : TypeId × Value → H} {W : World} {b0 : Nat} {v : Value} {d : DataW H} {ps : List MemPlace} (hv : Value.okWide Tryd.prog W .any b0 24 v) (h : DataW.Trod enc Tryd.prog W 0 (fun _ => true) true 24 v d ps) :
    ∃ op rd ra rb N : Int, v = .agg #[.int .i64 op, .int .i64 rd, .int .i64 ra, .int .i64 rb, .int .u32 N] ∧ (Lit.int .i64 op).wf = true ∧ (Lit.int .i64 rd).wf = true ∧ (Lit.int .i64 ra).wf = true ∧ (Lit.int .i64 rb).wf = true ∧ (Lit.int .u32 N).wf = true := by
  obtain ⟨cs, rfl, hsz⟩ := okWide_struct Tryd.underlying24 hv
  obtain ⟨fuel, hf⟩ := h
  obtain ⟨xs, n, _, hx, hl, hlen, hg⟩ := DataW.trod_struct Tryd.underlying24 hf
  match xs, hlen with
  | [y0, y1, y2, y3, y4], _ =>
    have h0 := hg 0 _ rfl; have h1 := hg 1 _ rfl; have h2 := hg 2 _ rfl; have h3 := hg 3 _ rfl; have h4 := hg 4 _ rfl
    obtain ⟨o0, e0, _, w0⟩ := DataW.trod_int Tryd.underlying3 h0
    obtain ⟨o1, e1, _, w1⟩ := DataW.trod_int Tryd.underlying3 h1
    obtain ⟨o2, e2, _, w2⟩ := DataW.trod_int Tryd.underlying3 h2
    obtain ⟨o3, e3, _, w3⟩ := DataW.trod_int Tryd.underlying3 h3
    obtain ⟨N, e4, _, w4⟩ := DataW.trod_int Tryd.underlying22 h4
    have c24 : Tryd.prog.cellsOf 24 = 5 := by kernel_rfl
    have c3 : Tryd.prog.cellsOf 3 = 1 := by kernel_rfl
    have c22 : Tryd.prog.cellsOf 22 = 1 := by kernel_rfl
    rw [c24] at hsz
    simp only [c3, c22, Value.cells] at e0 e1 e2 e3 e4
    refine ⟨o0, o1, o2, o3, N, ?_, w0, w1, w2, w3, w4⟩
    obtain ⟨l⟩ := cs
    match l, hsz with
    | [x0, x1, x2, x3, x4], _ =>
      simp [c3, c22] at e0 e1 e2 e3 e4
      subst e0 e1 e2 e3 e4
      rfl
/-- What an instruction that came in may be. -/
theorem ins_wf {op rd ra rb N : Int} (w0 : (Lit.int .i64 op).wf = true) (w1 : (Lit.int .i64 rd).wf = true) (w2 : (Lit.int .i64 ra).wf = true) (w3 : (Lit.int .i64 rb).wf = true) (w4 : (Lit.int .u32 N).wf = true) : insB op rd ra rb N = true := by
  have i64 : ∀ x : Int, (Lit.int .i64 x).wf = true → i64B x = true := fun x h => by simp [Lit.wf, IntKind.min, IntKind.max, IntKind.signed, IntKind.bits] at h; simp [i64B]; omega
  have u32 : ∀ x : Int, (Lit.int .u32 x).wf = true → u32B x = true := fun x h => by simp [Lit.wf, IntKind.min, IntKind.max, IntKind.signed, IntKind.bits] at h; simp [u32B]; omega
  simp only [insB, i64 _ w0, i64 _ w1, i64 _ w2, i64 _ w3, u32 _ w4, Bool.and_self]
theorem laidOut : laidOutB Tryd.prog = true := by kernel_rfl
end Hc
end Go.Proofs.YtndjckfnggnddaaDoor
