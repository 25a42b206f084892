/- LiveMeets: the regions behind the loops. -/
import Derived.Test.YtahikechkggbfaaMc
namespace Go.Proofs.Ytahikechkggbfaa
open Go Go.Ev
set_option linter.unusedVariables false
set_option linter.unusedSimpArgs false
set_option maxRecDepth 100000
namespace Me
theorem ha_slice {P : Program} {T : Tab} {tm : Tr Value} {o : Oper} {H : Heap} {t : TypeId} {x : Operand} {lo hi mx : Option Operand} {v r : Value} {l h m : Option Value} (ho : o.op = .slice t x lo hi mx) (hx : aeval tm x = some v) (hl : aevalo tm lo = some l) (hh : aevalo tm hi = some h) (hm : aevalo tm mx = some m)
    (hs : aslice T t v l h m = some r) : aop P T tm o H = some (.val r, H) := by
  unfold aop
  simp only [ho, hx, hl, hh, hm, hs, orVal, val]
abbrev P0 (n : Int) (V : Value) (ap : Bool) : List (Nat × Value) := [(1, .int .i64 n), (4, .bool false), (5, V), (8, .bool ap)]
abbrev P1 (n : Int) (V : Value) (ap : Bool) (p : Int) : List (Nat × Value) := [(1, .int .i64 n), (4, .bool false), (5, V), (8, .bool ap), (11, .int .i64 p)]
abbrev P2 (n : Int) (V : Value) (ap : Bool) (p : Int) (h : Nat) : List (Nat × Value) := [(1, .int .i64 n), (4, .bool false), (5, V), (8, .bool ap), (11, .int .i64 p), (12, .int .i64 h)]

section
variable {Q : Xt → St → Prop} {c : Option Addr} {len cap h : Nat} {n p : Int} {ap : Bool} {d : Nat → Value} {H : Heap}
theorem reg17 (hc : ACall Try.prog T1 15 #[(.slice c len cap)] H fun v H' => v = .int .i64 p ∧ Ext H H') (hq : ∀ s', Knows s' (P1 n (.slice c len cap) ap p) → Ext H s'.H → Q .normal s') : A1 a17 Q (P0 n (.slice c len cap) ap) d H := by
  unfold A1
  rw [r17]
  refine aw_reg ?_
  refine aops_go 1 9 (by kernel_rfl) ?_
  refine aops_call 110 15 #[(.slice c len cap)] (by kernel_rfl) (by kernel_rfl) (fun v => by kernel_rfl) (by kernel_rfl) hc fun v H' hv => ?_
  obtain ⟨rfl, hE⟩ := hv
  refine aops_go 1 9 (by kernel_rfl) ?_
  exact aops_end (by kernel_rfl) (hq _ (knows ⟨by kernel_rfl, by kernel_rfl, by kernel_rfl, by kernel_rfl, by kernel_rfl, True.intro⟩) hE)
theorem reg18 (hi : inB n 0 len = true) (hh : 0 + n % ((len : Int) - 0 + 1) = (h : Int)) (hq : ∀ s', Knows s' (P2 n (.slice c len cap) ap p h) → s'.H = H → Q .normal s') : A1 a18 Q (P1 n (.slice c len cap) ap p) d H := by
  unfold A1
  rw [r18]
  refine aw_reg ?_
  refine aops_go 3 9 (by kernel_rfl) ?_
  refine aops_ask 114 (.int .i64 (h : Int)) 12 #[.int .i64 n, .int .i64 0, .int .i64 (len : Int)] (by kernel_rfl) (by kernel_rfl) (by kernel_rfl) (by kernel_rfl) (by rw [← hh]; exact orc12 n 0 len hi) ?_
  refine aops_go 1 9 (by kernel_rfl) ?_
  exact aops_end (by kernel_rfl) (hq _ (knows ⟨by kernel_rfl, by kernel_rfl, by kernel_rfl, by kernel_rfl, by kernel_rfl, by kernel_rfl, True.intro⟩) (by kernel_rfl))
variable {c2 : Option Addr} {cap2 : Nat} {q : Int}
theorem reg19_t (h1 : decide (p ≤ 1) = true) (hsl : aslice T1 31 (.slice c len cap) none (some (.int .i64 (h : Int))) none = some (.slice c2 h cap2)) (hc : ACall Try.prog T1 15 #[.slice c2 h cap2] H fun v H' => v = .int .i64 q ∧ Ext H H') (hqp : decide (q ≤ p) = true) (hpl : decide (p ≤ (len : Int)) = true)
    (hq : ∀ s', Knows s' [(4, .bool true)] → Q .normal s') : A1 a19 Q (P2 n (.slice c len cap) true p h) d H := by
  unfold A1
  rw [r19]
  refine aw_reg ?_
  refine aops_go 5 9 (by kernel_rfl) ?_
  refine aops_see 119 (.bool true) ((by kernel_rfl : _ = some (.bool (decide (p ≤ 1)))).trans (by rw [h1])) ?_
  refine aops_go 9 9 (by kernel_rfl) ?_
  refine aops_go 2 9 (by kernel_rfl) ?_
  refine aops_val 131 (.slice c2 h cap2) H (by kernel_rfl) (by kernel_rfl) (by kernel_rfl) (ha_slice (t := 31) (x := .tmp 129) (lo := none) (hi := some (.tmp 130)) (mx := none) (v := (.slice c len cap)) (l := none) (h := some (.int .i64 (h : Int))) (m := none) (by kernel_rfl) (by kernel_rfl) (by kernel_rfl) (by kernel_rfl) (by kernel_rfl) hsl) ?_
  refine aops_call 132 15 #[.slice c2 h cap2] (by kernel_rfl) (by kernel_rfl) (fun v => by kernel_rfl) (by kernel_rfl) hc fun v H' hv => ?_
  obtain ⟨rfl, hE⟩ := hv
  refine aops_go 2 9 (by kernel_rfl) ?_
  refine aops_see 134 (.bool true) ((by kernel_rfl : _ = some (.bool (decide (q ≤ p)))).trans (by rw [hqp])) ?_
  refine aops_go 6 9 (by kernel_rfl) ?_
  refine aops_see 140 (.bool true) ((by kernel_rfl : _ = some (.bool (decide (p ≤ (len : Int))))).trans (by rw [hpl])) ?_
  refine aops_go 2 9 (by kernel_rfl) ?_
  refine aops_ask 143 (.bool true) 11 #[] (by kernel_rfl) (by kernel_rfl) (by kernel_rfl) (by kernel_rfl) orc11 ?_
  refine aops_go 2 9 (by kernel_rfl) ?_
  exact aops_end (by kernel_rfl) (hq _ (knows ⟨by kernel_rfl, True.intro⟩))
theorem reg19_f (h1 : decide (p ≥ 2) = true) (hsl : aslice T1 31 (.slice c len cap) none (some (.int .i64 (h : Int))) none = some (.slice c2 h cap2)) (hc : ACall Try.prog T1 15 #[.slice c2 h cap2] H fun v H' => v = .int .i64 q ∧ Ext H H') (hqp : decide (q ≤ p) = true) (hpl : decide (p ≤ (len : Int)) = true)
    (hq : ∀ s', Knows s' [(4, .bool true)] → Q .normal s') : A1 a19 Q (P2 n (.slice c len cap) false p h) d H := by
  unfold A1
  rw [r19]
  refine aw_reg ?_
  refine aops_go 11 9 (by kernel_rfl) ?_
  refine aops_see 125 (.bool true) ((by kernel_rfl : _ = some (.bool (decide (p ≥ 2)))).trans (by rw [h1])) ?_
  refine aops_go 3 9 (by kernel_rfl) ?_
  refine aops_go 2 9 (by kernel_rfl) ?_
  refine aops_val 131 (.slice c2 h cap2) H (by kernel_rfl) (by kernel_rfl) (by kernel_rfl) (ha_slice (t := 31) (x := .tmp 129) (lo := none) (hi := some (.tmp 130)) (mx := none) (v := (.slice c len cap)) (l := none) (h := some (.int .i64 (h : Int))) (m := none) (by kernel_rfl) (by kernel_rfl) (by kernel_rfl) (by kernel_rfl) (by kernel_rfl) hsl) ?_
  refine aops_call 132 15 #[.slice c2 h cap2] (by kernel_rfl) (by kernel_rfl) (fun v => by kernel_rfl) (by kernel_rfl) hc fun v H' hv => ?_
  obtain ⟨rfl, hE⟩ := hv
  refine aops_go 2 9 (by kernel_rfl) ?_
  refine aops_see 134 (.bool true) ((by kernel_rfl : _ = some (.bool (decide (q ≤ p)))).trans (by rw [hqp])) ?_
  refine aops_go 6 9 (by kernel_rfl) ?_
  refine aops_see 140 (.bool true) ((by kernel_rfl : _ = some (.bool (decide (p ≤ (len : Int))))).trans (by rw [hpl])) ?_
  refine aops_go 2 9 (by kernel_rfl) ?_
  refine aops_ask 143 (.bool true) 11 #[] (by kernel_rfl) (by kernel_rfl) (by kernel_rfl) (by kernel_rfl) orc11 ?_
  refine aops_go 2 9 (by kernel_rfl) ?_
  exact aops_end (by kernel_rfl) (hq _ (knows ⟨by kernel_rfl, True.intro⟩))
end
end Me
end Go.Proofs.Ytahikechkggbfaa
