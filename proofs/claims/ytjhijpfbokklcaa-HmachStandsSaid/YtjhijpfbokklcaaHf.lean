/- HmachStands: the regions, and the loops. -/
import Derived.Test.YtjhijpfbokklcaaHe
namespace Go.Proofs.Ytjhijpfbokklcaa
open Go Go.Ev Go.RowKit
set_option linter.unusedVariables false
set_option linter.unusedSimpArgs false
set_option maxRecDepth 100000
namespace Hs
section
variable {Q : Xt → St → Prop} {a : Option Addr} {len cap k : Nat} {imm w r0 : Int} {d : Nat → Value} {H : Heap}
theorem reg5 (hq : ∀ s', Knows s' [(1, Sl a len cap), (2, .int .u32 imm), (7, Pm 2), (9, Pm 4), (10, .int .i64 (0 : Nat))] → s'.H = H → Q .normal s') : A4 f5r5 Q [(1, Sl a len cap), (2, .int .u32 imm), (7, Pm 2), (9, Pm 4)] d H := by
  unfold A4
  rw [f5r5_eq]
  refine aw_reg ?_
  refine aops_go 1 60 (by kernel_rfl) ?_
  exact aops_end (by kernel_rfl) (hq _ (knows ⟨by kernel_rfl, by kernel_rfl, by kernel_rfl, by kernel_rfl, by kernel_rfl, True.intro⟩) (by kernel_rfl))
theorem reg6_t (h : decide ((k : Int) < (len : Int)) = true) (hq : ∀ s', Knows s' ((45, .bool (decide ((k : Int) < 16))) :: [(1, Sl a len cap), (2, .int .u32 imm), (7, Pm 2), (9, Pm 4), (10, .int .i64 k)]) → s'.H = H → Q .normal s') : A4 f5r6 Q [(1, Sl a len cap), (2, .int .u32 imm), (7, Pm 2), (9, Pm 4), (10, .int .i64 k)] d H := by
  unfold A4
  rw [f5r6_eq]
  refine aw_reg ?_
  refine aops_go 5 60 (by kernel_rfl) ?_
  refine aops_see 42 (.bool true) ((by kernel_rfl : _ = some (.bool (decide ((k : Int) < (len : Int))))).trans (by rw [h])) ?_
  refine aops_go 3 60 (by kernel_rfl) ?_
  exact aops_end (by kernel_rfl) (hq _ (knows ⟨by kernel_rfl, by kernel_rfl, by kernel_rfl, by kernel_rfl, by kernel_rfl, by kernel_rfl, True.intro⟩) (by kernel_rfl))
theorem reg6_f (h : decide ((k : Int) < (len : Int)) = false) (hq : ∀ s', Knows s' ((45, .bool false) :: [(1, Sl a len cap), (2, .int .u32 imm), (7, Pm 2), (9, Pm 4), (10, .int .i64 k)]) → s'.H = H → Q .normal s') : A4 f5r6 Q [(1, Sl a len cap), (2, .int .u32 imm), (7, Pm 2), (9, Pm 4), (10, .int .i64 k)] d H := by
  unfold A4
  rw [f5r6_eq]
  refine aw_reg ?_
  refine aops_go 5 60 (by kernel_rfl) ?_
  refine aops_see 42 (.bool false) ((by kernel_rfl : _ = some (.bool (decide ((k : Int) < (len : Int))))).trans (by rw [h])) ?_
  refine aops_go 3 60 (by kernel_rfl) ?_
  exact aops_end (by kernel_rfl) (hq _ (knows ⟨by kernel_rfl, by kernel_rfl, by kernel_rfl, by kernel_rfl, by kernel_rfl, by kernel_rfl, True.intro⟩) (by kernel_rfl))
theorem reg7 (hq : ∀ s', Knows s' [(1, Sl a len cap), (2, .int .u32 imm), (7, Pm 2), (9, Pm 4), (10, .int .i64 (IntKind.i64.wrap ((k : Int) + 1)))] → s'.H = H → Q .normal s') : A4 f5r7 Q [(1, Sl a len cap), (2, .int .u32 imm), (7, Pm 2), (9, Pm 4), (10, .int .i64 k)] d H := by
  unfold A4
  rw [f5r7_eq]
  refine aw_reg ?_
  refine aops_go 3 60 (by kernel_rfl) ?_
  exact aops_end (by kernel_rfl) (hq _ (knows ⟨by kernel_rfl, by kernel_rfl, by kernel_rfl, by kernel_rfl, by kernel_rfl, True.intro⟩) (by kernel_rfl))
theorem reg8 {b off : Nat} {ob : Ob} {v : Int} {cells : List Value} (hb : k.blt len = true) (hob : H.get b = some ob) (hv : ob.cells[off + k * 1]? = some (.int .u64 v)) (hm : H.get 2 = some ⟨cells, 62, false⟩) (hl : cells.length = 19) (hk : k < 16)
    (hq : ∀ s', Knows s' ((55, .bool false) :: [(1, Sl (some ⟨b, off, none⟩) len cap), (2, .int .u32 imm), (7, Pm 2), (9, Pm 4), (10, .int .i64 k)]) → s'.H = H.put 2 ⟨cells.set k (.int .u64 v), 62, false⟩ → Q .normal s') :
    A4 f5r8 Q [(1, Sl (some ⟨b, off, none⟩) len cap), (2, .int .u32 imm), (7, Pm 2), (9, Pm 4), (10, .int .i64 k)] d H := by
  unfold A4
  rw [f5r8_eq]
  refine aw_reg ?_
  refine aops_go 4 60 (by kernel_rfl) ?_
  refine aops_val 52 (.pointer (some ⟨b, off + k * 1, none⟩)) H (by kernel_rfl) (by kernel_rfl) (by kernel_rfl) ((by kernel_rfl : _ = val (bif k.blt len then some (.pointer (some ⟨b, off + k * 1, none⟩)) else none) H).trans (by rw [hb]; rfl)) ?_
  refine aops_val 53 (.int .u64 v) H (by kernel_rfl) (by kernel_rfl) (by kernel_rfl) ((by kernel_rfl : _ = val (aload T4 42 (.pointer (some ⟨b, off + k * 1, none⟩)) H) H).trans (val_of (load42 hob hv))) ?_
  refine aops_call 54 17 #[Pm 2, .int .i64 (k : Int), .int .u64 v] (by kernel_rfl) (by kernel_rfl) (fun v => by kernel_rfl) (by kernel_rfl) (setreg_ev hm hl hk) fun v H' hv => ?_
  obtain ⟨rfl, hE⟩ := hv
  subst hE
  refine aops_go 1 60 (by kernel_rfl) ?_
  exact aops_end (by kernel_rfl) (hq _ (knows ⟨by kernel_rfl, by kernel_rfl, by kernel_rfl, by kernel_rfl, by kernel_rfl, by kernel_rfl, True.intro⟩) (by kernel_rfl))
theorem reg10_stop (hc : ACall Try.prog T4 21 #[Pm 2] H fun r H' => r = .int .i64 w ∧ Ext H H') (hr : ∀ H', Ext H H' → ACall Try.prog T4 18 #[Pm 2, .int .i64 0] H' fun r H'' => r = .int .u64 r0 ∧ H'' = H')
    (hq : ∀ s', Knows s' [(7, Pm 2), (11, .int .i64 w), (12, .int .u64 r0)] → Ext H s'.H → Q .normal s') : A4 f5r10 Q [(7, Pm 2)] d H := by
  unfold A4
  rw [f5r10_eq]
  refine aw_reg ?_
  refine aops_go 1 60 (by kernel_rfl) ?_
  refine aops_call 57 21 #[Pm 2] (by kernel_rfl) (by kernel_rfl) (fun v => by kernel_rfl) (by kernel_rfl) hc fun v H' hv => ?_
  obtain ⟨rfl, hE⟩ := hv
  refine aops_go 1 60 (by kernel_rfl) ?_
  refine aops_call 59 18 #[Pm 2, .int .i64 0] (by kernel_rfl) (by kernel_rfl) (fun v => by kernel_rfl) (by kernel_rfl) (hr _ hE) fun v H'' hv => ?_
  obtain ⟨rfl, rfl⟩ := hv
  refine aops_go 2 60 (by kernel_rfl) ?_
  exact aops_end (by kernel_rfl) (hq _ (knows ⟨by kernel_rfl, by kernel_rfl, by kernel_rfl, True.intro⟩) hE)
theorem reg10_run {F : Heap → Prop} (hc : ACall Try.prog T4 21 #[Pm 2] H fun r H' => r = .int .i64 0 ∧ F H') (hr : ∀ H', F H' → ∃ r1, ACall Try.prog T4 18 #[Pm 2, .int .i64 0] H' fun r H'' => r = .int .u64 r1 ∧ H'' = H')
    (hq : ∀ s', Knows s' [(2, .int .u32 imm), (7, Pm 2), (9, Pm 4), (11, .int .i64 0)] → F s'.H → Q .normal s') : A4 f5r10 Q [(2, .int .u32 imm), (7, Pm 2), (9, Pm 4)] d H := by
  unfold A4
  rw [f5r10_eq]
  refine aw_reg ?_
  refine aops_go 1 60 (by kernel_rfl) ?_
  refine aops_call 57 21 #[Pm 2] (by kernel_rfl) (by kernel_rfl) (fun v => by kernel_rfl) (by kernel_rfl) hc fun v H' hv => ?_
  obtain ⟨rfl, hE⟩ := hv
  refine aops_go 1 60 (by kernel_rfl) ?_
  obtain ⟨r1, hr1⟩ := hr _ hE
  refine aops_call 59 18 #[Pm 2, .int .i64 0] (by kernel_rfl) (by kernel_rfl) (fun v => by kernel_rfl) (by kernel_rfl) hr1 fun v H'' hv => ?_
  obtain ⟨rfl, rfl⟩ := hv
  refine aops_go 2 60 (by kernel_rfl) ?_
  exact aops_end (by kernel_rfl) (hq _ (knows ⟨by kernel_rfl, by kernel_rfl, by kernel_rfl, by kernel_rfl, True.intro⟩) hE)
theorem reg11_stop (hw : (w == 0) = false) (hq : ∀ s', Knows s' [(7, Pm 2), (11, .int .i64 w), (12, .int .u64 r0), (61, .bool false)] → s'.H = H → Q .normal s') : A4 f5r11 Q [(7, Pm 2), (11, .int .i64 w), (12, .int .u64 r0)] d H := by
  unfold A4
  rw [f5r11_eq]
  refine aw_reg ?_
  refine aops_go 2 60 (by kernel_rfl) ?_
  refine aops_see 61 (.bool false) ((by kernel_rfl : _ = some (.bool (w == 0))).trans (by rw [hw])) ?_
  exact aops_end (by kernel_rfl) (hq _ (knows ⟨by kernel_rfl, by kernel_rfl, by kernel_rfl, by kernel_rfl, True.intro⟩) (by kernel_rfl))
theorem reg11_run (hq : ∀ s', Knows s' [(2, .int .u32 imm), (7, Pm 2), (9, Pm 4), (61, .bool true)] → s'.H = H → Q .normal s') : A4 f5r11 Q [(2, .int .u32 imm), (7, Pm 2), (9, Pm 4), (11, .int .i64 0)] d H := by
  unfold A4
  rw [f5r11_eq]
  refine aw_reg ?_
  refine aops_go 2 60 (by kernel_rfl) ?_
  exact aops_end (by kernel_rfl) (hq _ (knows ⟨by kernel_rfl, by kernel_rfl, by kernel_rfl, by kernel_rfl, True.intro⟩) (by kernel_rfl))
theorem reg12_a {x : Int} (hc : ACall Try.prog T4 13 #[Pm 2] H fun r H' => r = .int .i64 x ∧ H' = H) (hx : (x != 0) = true) (hq : ∀ s', Knows s' [(6, .bool true)] → Q .normal s') : A4 f5r12 Q [(2, .int .u32 imm), (7, Pm 2), (9, Pm 4)] d H := by
  unfold A4
  rw [f5r12_eq]
  refine aw_reg ?_
  refine aops_go 1 60 (by kernel_rfl) ?_
  refine aops_call 63 13 #[Pm 2] (by kernel_rfl) (by kernel_rfl) (fun v => by kernel_rfl) (by kernel_rfl) hc fun v H' hv => ?_
  obtain ⟨rfl, hE⟩ := hv
  subst hE
  refine aops_go 2 60 (by kernel_rfl) ?_
  refine aops_see 65 (.bool true) ((by kernel_rfl : _ = some (.bool (x != 0))).trans (by rw [hx])) ?_
  refine aops_go 12 60 (by kernel_rfl) ?_
  exact aops_end (by kernel_rfl) (hq _ (knows ⟨by kernel_rfl, True.intro⟩))
theorem reg12_z (hc : ACall Try.prog T4 13 #[Pm 2] H fun r H' => r = .int .i64 0 ∧ H' = H) (h4 : H.get 4 = some (ICell 18 0)) (hq : ∀ s', Knows s' [(6, .bool true)] → Q .normal s') : A4 f5r12 Q [(2, .int .u32 0), (7, Pm 2), (9, Pm 4)] d H := by
  unfold A4
  rw [f5r12_eq]
  refine aw_reg ?_
  refine aops_go 1 60 (by kernel_rfl) ?_
  refine aops_call 63 13 #[Pm 2] (by kernel_rfl) (by kernel_rfl) (fun v => by kernel_rfl) (by kernel_rfl) hc fun v H' hv => ?_
  obtain ⟨rfl, hE⟩ := hv
  subst hE
  refine aops_go 3 60 (by kernel_rfl) ?_
  refine aops_val 67 (.int .i64 18) H' (by kernel_rfl) (by kernel_rfl) (by kernel_rfl) ((by kernel_rfl : _ = val (aload T4 3 (.pointer (some ⟨4, 0, none⟩)) H') H').trans (val_of (load3 h4 rfl))) ?_
  refine aops_go 6 60 (by kernel_rfl) ?_
  refine aops_ask 74 (.bool true) 16 #[] (by kernel_rfl) (by kernel_rfl) (by kernel_rfl) (by kernel_rfl) orc16 ?_
  refine aops_go 3 60 (by kernel_rfl) ?_
  exact aops_end (by kernel_rfl) (hq _ (knows ⟨by kernel_rfl, True.intro⟩))
abbrev S0 (w r0 : Int) (k : Nat) : List (Nat × Value) := [(7, Pm 2), (11, .int .i64 w), (12, .int .u64 r0), (13, .int .i64 k)]
theorem reg13 (hq : ∀ s', Knows s' (S0 w r0 0) → s'.H = H → Q .normal s') : A4 f5r13 Q [(7, Pm 2), (11, .int .i64 w), (12, .int .u64 r0)] d H := by
  unfold A4
  rw [f5r13_eq]
  refine aw_reg ?_
  refine aops_go 1 60 (by kernel_rfl) ?_
  exact aops_end (by kernel_rfl) (hq _ (knows ⟨by kernel_rfl, by kernel_rfl, by kernel_rfl, by kernel_rfl, True.intro⟩) (by kernel_rfl))
theorem reg14 (hq : ∀ s', Knows s' ((78, .bool (decide ((k : Int) < 3))) :: S0 w r0 k) → s'.H = H → Q .normal s') : A4 f5r14 Q (S0 w r0 k) d H := by
  unfold A4
  rw [f5r14_eq]
  refine aw_reg ?_
  refine aops_go 2 60 (by kernel_rfl) ?_
  exact aops_end (by kernel_rfl) (hq _ (knows ⟨by kernel_rfl, by kernel_rfl, by kernel_rfl, by kernel_rfl, by kernel_rfl, True.intro⟩) (by kernel_rfl))
theorem reg15 (hq : ∀ s', Knows s' [(7, Pm 2), (11, .int .i64 w), (12, .int .u64 r0), (13, .int .i64 (IntKind.i64.wrap ((k : Int) + 1)))] → s'.H = H → Q .normal s') : A4 f5r15 Q (S0 w r0 k) d H := by
  unfold A4
  rw [f5r15_eq]
  refine aw_reg ?_
  refine aops_go 3 60 (by kernel_rfl) ?_
  exact aops_end (by kernel_rfl) (hq _ (knows ⟨by kernel_rfl, by kernel_rfl, by kernel_rfl, by kernel_rfl, True.intro⟩) (by kernel_rfl))
theorem reg16 (hc : ACall Try.prog T4 21 #[Pm 2] H fun r H' => r = .int .i64 w ∧ Ext H H') (ha : ∀ H', Ext H H' → ACall Try.prog T4 13 #[Pm 2] H' fun r H'' => r = .int .i64 0 ∧ H'' = H')
    (hr : ∀ H', Ext H H' → ACall Try.prog T4 18 #[Pm 2, .int .i64 0] H' fun r H'' => r = .int .u64 r0 ∧ H'' = H') (hw : ∀ H', Ext H H' → ACall Try.prog T4 19 #[Pm 2, .int .i64 0] H' fun r H'' => r = .int .u32 0 ∧ H'' = H')
    (hq : ∀ s', Knows s' ((100, .bool false) :: S0 w r0 k) → Ext H s'.H → Q .normal s') : A4 f5r16 Q (S0 w r0 k) d H := by
  unfold A4
  rw [f5r16_eq]
  refine aw_reg ?_
  refine aops_go 1 60 (by kernel_rfl) ?_
  refine aops_call 82 21 #[Pm 2] (by kernel_rfl) (by kernel_rfl) (fun v => by kernel_rfl) (by kernel_rfl) hc fun v H' hv => ?_
  obtain ⟨rfl, hE⟩ := hv
  refine aops_go 3 60 (by kernel_rfl) ?_
  refine aops_see 85 (.bool false) ((by kernel_rfl : _ = some (.bool (w != w))).trans (by simp)) ?_
  refine aops_go 1 60 (by kernel_rfl) ?_
  refine aops_call 87 13 #[Pm 2] (by kernel_rfl) (by kernel_rfl) (fun v => by kernel_rfl) (by kernel_rfl) (ha _ hE) fun v H'' hv => ?_
  obtain ⟨rfl, rfl⟩ := hv
  refine aops_go 4 60 (by kernel_rfl) ?_
  refine aops_call 92 18 #[Pm 2, .int .i64 0] (by kernel_rfl) (by kernel_rfl) (fun v => by kernel_rfl) (by kernel_rfl) (hr _ hE) fun v H'' hv => ?_
  obtain ⟨rfl, rfl⟩ := hv
  refine aops_go 2 60 (by kernel_rfl) ?_
  refine aops_see 94 (.bool false) ((by kernel_rfl : _ = some (.bool (r0 != r0))).trans (by simp)) ?_
  refine aops_go 3 60 (by kernel_rfl) ?_
  refine aops_call 98 19 #[Pm 2, .int .i64 0] (by kernel_rfl) (by kernel_rfl) (fun v => by kernel_rfl) (by kernel_rfl) (hw _ hE) fun v H'' hv => ?_
  obtain ⟨rfl, rfl⟩ := hv
  refine aops_go 2 60 (by kernel_rfl) ?_
  exact aops_end (by kernel_rfl) (hq _ (knows ⟨by kernel_rfl, by kernel_rfl, by kernel_rfl, by kernel_rfl, by kernel_rfl, True.intro⟩) hE)
theorem reg18 (hq : ∀ s', Knows s' [(6, .bool true)] → Q .normal s') : A4 f5r18 Q [(7, Pm 2)] d H := by
  unfold A4
  rw [f5r18_eq]
  refine aw_reg ?_
  refine aops_ask 101 (.bool true) 16 #[] (by kernel_rfl) (by kernel_rfl) (by kernel_rfl) (by kernel_rfl) orc16 ?_
  refine aops_go 1 60 (by kernel_rfl) ?_
  exact aops_end (by kernel_rfl) (hq _ (knows ⟨by kernel_rfl, True.intro⟩))
end
end Hs
end Go.Proofs.Ytjhijpfbokklcaa
