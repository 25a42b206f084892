/- LiveMeets: the regions of the second and third loop, and those behind them. -/
import Derived.Test.YtahikechkggbfaaMb
namespace Go.Proofs.Ytahikechkggbfaa
open Go Go.Ev
set_option linter.unusedVariables false
set_option linter.unusedSimpArgs false
set_option maxRecDepth 100000
namespace Me
theorem aopsC_pt {P : Program} {T : Tab} {n : Nat} {s : St} {ops : Array Oper} {K : St → Prop} {l : List Oper} (t : Nat) (v : Value) (he : l.isEmpty = false) (hw : awanted ops s.tm (hdO l) = true) (hd : dput n s.tm (hdO l).dst v = some (s.tm.put t (some v)))
    (hl : isLoad (hdO l).op = false) (ha : aop P T s.tm (hdO l) s.H = some (.val v, s.H)) (hk : AOpsC P T n ops l.tail K ⟨s.tm.put t (some v), s.H⟩) : AOpsC P T n ops l K s := by
  rw [hdO_tail he]
  exact aopsC_val hw ha (.inl hl) hd hk
theorem veq3 (x y z : Int) : veq (.agg #[.int .i64 x, .int .i64 y, .int .i64 z]) (.agg #[.int .i64 x, .int .i64 y, .int .i64 z]) = true := by
  simp [veq, veqs, veq0]
abbrev Rw (B len : Nat) : Value := .slice (some ⟨B, 0, none⟩) len (unk + 3)
abbrev M0 (n : Int) (v : Value) (ap : Bool) (i : Nat) : List (Nat × Value) := [(1, .int .i64 n), (4, .bool false), (5, v), (8, .bool ap), (9, .int .i64 i)]
abbrev N0 (n : Int) (v : Value) (ap : Bool) (i k : Nat) : List (Nat × Value) := [(1, .int .i64 n), (4, .bool false), (5, v), (8, .bool ap), (9, .int .i64 i), (10, .int .i64 k)]
abbrev ivV (x : IV) : Value := .agg #[.int .i64 x.v, .int .i64 x.f, .int .i64 x.t]

section
variable {Q : Xt → St → Prop} {c : Option Addr} {len cap k i : Nat} {n : Int} {ap : Bool} {d : Nat → Value} {H : Heap}
theorem reg7 (hq : ∀ s', Knows s' ([(1, .int .i64 n), (4, .bool false), (5, (.slice c len cap)), (8, .bool true)]) → s'.H = H → Q .normal s') : A1 a7 Q ([(1, .int .i64 n), (4, .bool false), (5, (.slice c len cap))]) d H := by
  unfold A1
  rw [r7]
  refine aw_reg ?_
  refine aops_go 1 9 (by kernel_rfl) ?_
  exact aops_end (by kernel_rfl) (hq _ (knows ⟨by kernel_rfl, by kernel_rfl, by kernel_rfl, by kernel_rfl, True.intro⟩) (by kernel_rfl))
theorem reg8 (hq : ∀ s', Knows s' (M0 n (.slice c len cap) true 0) → s'.H = H → Q .normal s') : A1 a8 Q ([(1, .int .i64 n), (4, .bool false), (5, (.slice c len cap)), (8, .bool true)]) d H := by
  unfold A1
  rw [r8]
  refine aw_reg ?_
  refine aops_go 1 9 (by kernel_rfl) ?_
  exact aops_end (by kernel_rfl) (hq _ (knows ⟨by kernel_rfl, by kernel_rfl, by kernel_rfl, by kernel_rfl, by kernel_rfl, True.intro⟩) (by kernel_rfl))
theorem reg9 (hq : ∀ s', Knows s' ((46, .bool (decide ((i : Int) < (len : Int)))) :: M0 n (.slice c len cap) ap i) → s'.H = H → Q .normal s') : A1 a9 Q (M0 n (.slice c len cap) ap i) d H := by
  unfold A1
  rw [r9]
  refine aw_reg ?_
  refine aops_go 4 9 (by kernel_rfl) ?_
  exact aops_end (by kernel_rfl) (hq _ (knows ⟨by kernel_rfl, by kernel_rfl, by kernel_rfl, by kernel_rfl, by kernel_rfl, by kernel_rfl, True.intro⟩) (by kernel_rfl))
theorem reg11 (hq : ∀ s', Knows s' (N0 n (.slice c len cap) ap i 0) → s'.H = H → Q .normal s') : A1 a11 Q (M0 n (.slice c len cap) ap i) d H := by
  unfold A1
  rw [r11]
  refine aw_reg ?_
  refine aops_go 1 9 (by kernel_rfl) ?_
  exact aops_end (by kernel_rfl) (hq _ (knows ⟨by kernel_rfl, by kernel_rfl, by kernel_rfl, by kernel_rfl, by kernel_rfl, by kernel_rfl, True.intro⟩) (by kernel_rfl))
theorem reg12 (hq : ∀ s', Knows s' ((52, .bool (decide ((k : Int) < (len : Int)))) :: N0 n (.slice c len cap) ap i k) → s'.H = H → Q .normal s') : A1 a12 Q (N0 n (.slice c len cap) ap i k) d H := by
  unfold A1
  rw [r12]
  refine aw_reg ?_
  refine aops_go 4 9 (by kernel_rfl) ?_
  exact aops_end (by kernel_rfl) (hq _ (knows ⟨by kernel_rfl, by kernel_rfl, by kernel_rfl, by kernel_rfl, by kernel_rfl, by kernel_rfl, by kernel_rfl, True.intro⟩) (by kernel_rfl))
theorem reg13 (hq : ∀ s', Knows s' ((10, .int .i64 (IntKind.i64.wrap ((k : Int) + 1))) :: M0 n (.slice c len cap) ap i) → s'.H = H → Q .normal s') : A1 a13 Q (N0 n (.slice c len cap) ap i k) d H := by
  unfold A1
  rw [r13]
  refine aw_reg ?_
  refine aops_go 3 9 (by kernel_rfl) ?_
  exact aops_end (by kernel_rfl) (hq _ (knows ⟨by kernel_rfl, by kernel_rfl, by kernel_rfl, by kernel_rfl, by kernel_rfl, by kernel_rfl, True.intro⟩) (by kernel_rfl))
theorem reg10 (hq : ∀ s', Knows s' ([(1, .int .i64 n), (4, .bool false), (5, (.slice c len cap)), (8, .bool ap), (9, .int .i64 (IntKind.i64.wrap ((i : Int) + 1)))]) → s'.H = H → Q .normal s') : A1 a10 Q (M0 n (.slice c len cap) ap i) d H := by
  unfold A1
  rw [r10]
  refine aw_reg ?_
  refine aops_go 3 9 (by kernel_rfl) ?_
  exact aops_end (by kernel_rfl) (hq _ (knows ⟨by kernel_rfl, by kernel_rfl, by kernel_rfl, by kernel_rfl, by kernel_rfl, True.intro⟩) (by kernel_rfl))
end
section
variable {Q : Xt → St → Prop} {B len k i : Nat} {n : Int} {ap : Bool} {d : Nat → Value} {H : Heap} {ob : Ob} {p q : IV}
theorem reg14_ne (hbi : i.blt len = true) (hbk : k.blt len = true) (hob : H.get B = some ob) (hi : (ob.cells.drop (0 + i * 3)).take 3 = [.int .i64 p.v, .int .i64 p.f, .int .i64 p.t]) (hk : (ob.cells.drop (0 + k * 3)).take 3 = [.int .i64 q.v, .int .i64 q.f, .int .i64 q.t]) (hik : ((i : Int) == (k : Int)) = false)
    (hq : ∀ s', Knows s' ((90, .bool false) :: N0 n (Rw B len) ap i k) → s'.H = H → Q .normal s') : A1 a14 Q (N0 n (Rw B len) ap i k) d H := by
  unfold A1
  rw [r14]
  refine aw_drawC ?_
  refine aopsC_go 2 (by kernel_rfl) ?_
  refine aopsC_pt 57 (.pointer (some ⟨B, 0 + i * 3, none⟩)) (by kernel_rfl) (by kernel_rfl) (by kernel_rfl) (by kernel_rfl) ((by kernel_rfl : _ = val (bif i.blt len then some (.pointer (some ⟨B, 0 + i * 3, none⟩)) else none) H).trans (by rw [hbi]; rfl)) ?_
  refine aopsC_get 58 (ivV p) (by kernel_rfl) (by kernel_rfl) (by kernel_rfl) (veq3 _ _ _) ((by kernel_rfl : _ = val (aload T1 40 (.pointer (some ⟨B, 0 + i * 3, none⟩)) H) H).trans (val_of (load40 hob hi))) ?_
  refine aopsC_go 2 (by kernel_rfl) ?_
  refine aopsC_pt 61 (.pointer (some ⟨B, 0 + k * 3, none⟩)) (by kernel_rfl) (by kernel_rfl) (by kernel_rfl) (by kernel_rfl) ((by kernel_rfl : _ = val (bif k.blt len then some (.pointer (some ⟨B, 0 + k * 3, none⟩)) else none) H).trans (by rw [hbk]; rfl)) ?_
  refine aopsC_get 62 (ivV q) (by kernel_rfl) (by kernel_rfl) (by kernel_rfl) (veq3 _ _ _) ((by kernel_rfl : _ = val (aload T1 40 (.pointer (some ⟨B, 0 + k * 3, none⟩)) H) H).trans (val_of (load40 hob hk))) ?_
  refine aopsC_ask 63 (.bool (meetB p.f p.t q.f q.t)) 13 #[ivV p, ivV q] (by kernel_rfl) (by kernel_rfl) (by kernel_rfl) (by kernel_rfl) (orc13 _ _ _ _ _ _) ?_
  refine aopsC_go 2 (by kernel_rfl) ?_
  refine aopsC_pt 66 (.pointer (some ⟨B, 0 + k * 3, none⟩)) (by kernel_rfl) (by kernel_rfl) (by kernel_rfl) (by kernel_rfl) ((by kernel_rfl : _ = val (bif k.blt len then some (.pointer (some ⟨B, 0 + k * 3, none⟩)) else none) H).trans (by rw [hbk]; rfl)) ?_
  refine aopsC_get 67 (ivV q) (by kernel_rfl) (by kernel_rfl) (by kernel_rfl) (veq3 _ _ _) ((by kernel_rfl : _ = val (aload T1 40 (.pointer (some ⟨B, 0 + k * 3, none⟩)) H) H).trans (val_of (load40 hob hk))) ?_
  refine aopsC_go 2 (by kernel_rfl) ?_
  refine aopsC_pt 70 (.pointer (some ⟨B, 0 + i * 3, none⟩)) (by kernel_rfl) (by kernel_rfl) (by kernel_rfl) (by kernel_rfl) ((by kernel_rfl : _ = val (bif i.blt len then some (.pointer (some ⟨B, 0 + i * 3, none⟩)) else none) H).trans (by rw [hbi]; rfl)) ?_
  refine aopsC_get 71 (ivV p) (by kernel_rfl) (by kernel_rfl) (by kernel_rfl) (veq3 _ _ _) ((by kernel_rfl : _ = val (aload T1 40 (.pointer (some ⟨B, 0 + i * 3, none⟩)) H) H).trans (val_of (load40 hob hi))) ?_
  refine aopsC_ask 72 (.bool (meetB q.f q.t p.f p.t)) 13 #[ivV q, ivV p] (by kernel_rfl) (by kernel_rfl) (by kernel_rfl) (by kernel_rfl) (orc13 _ _ _ _ _ _) ?_
  refine aopsC_go 2 (by kernel_rfl) ?_
  refine aopsC_see 74 (.bool false) ((by kernel_rfl : _ = some (.bool (meetB p.f p.t q.f q.t != meetB q.f q.t p.f p.t))).trans (by rw [meet_comm]; simp)) ?_
  refine aopsC_go 4 (by kernel_rfl) ?_
  refine aopsC_see 78 (.bool false) ((by kernel_rfl : _ = some (.bool ((i : Int) == (k : Int)))).trans (by rw [hik])) ?_
  refine aopsC_go 12 (by kernel_rfl) ?_
  exact aopsC_end (by kernel_rfl) (hq _ (knows ⟨by kernel_rfl, by kernel_rfl, by kernel_rfl, by kernel_rfl, by kernel_rfl, by kernel_rfl, by kernel_rfl, True.intro⟩) (by kernel_rfl))
theorem reg14_eq (hbi : i.blt len = true) (hbk : k.blt len = true) (hob : H.get B = some ob) (hi : (ob.cells.drop (0 + i * 3)).take 3 = [.int .i64 p.v, .int .i64 p.f, .int .i64 p.t]) (hk : (ob.cells.drop (0 + k * 3)).take 3 = [.int .i64 q.v, .int .i64 q.f, .int .i64 q.t]) (hik : ((i : Int) == (k : Int)) = true) (hm : meetB p.f p.t q.f q.t = true)
    (hq : ∀ s', Knows s' ((90, .bool false) :: N0 n (Rw B len) ap i k) → s'.H = H → Q .normal s') : A1 a14 Q (N0 n (Rw B len) ap i k) d H := by
  unfold A1
  rw [r14]
  refine aw_drawC ?_
  refine aopsC_go 2 (by kernel_rfl) ?_
  refine aopsC_pt 57 (.pointer (some ⟨B, 0 + i * 3, none⟩)) (by kernel_rfl) (by kernel_rfl) (by kernel_rfl) (by kernel_rfl) ((by kernel_rfl : _ = val (bif i.blt len then some (.pointer (some ⟨B, 0 + i * 3, none⟩)) else none) H).trans (by rw [hbi]; rfl)) ?_
  refine aopsC_get 58 (ivV p) (by kernel_rfl) (by kernel_rfl) (by kernel_rfl) (veq3 _ _ _) ((by kernel_rfl : _ = val (aload T1 40 (.pointer (some ⟨B, 0 + i * 3, none⟩)) H) H).trans (val_of (load40 hob hi))) ?_
  refine aopsC_go 2 (by kernel_rfl) ?_
  refine aopsC_pt 61 (.pointer (some ⟨B, 0 + k * 3, none⟩)) (by kernel_rfl) (by kernel_rfl) (by kernel_rfl) (by kernel_rfl) ((by kernel_rfl : _ = val (bif k.blt len then some (.pointer (some ⟨B, 0 + k * 3, none⟩)) else none) H).trans (by rw [hbk]; rfl)) ?_
  refine aopsC_get 62 (ivV q) (by kernel_rfl) (by kernel_rfl) (by kernel_rfl) (veq3 _ _ _) ((by kernel_rfl : _ = val (aload T1 40 (.pointer (some ⟨B, 0 + k * 3, none⟩)) H) H).trans (val_of (load40 hob hk))) ?_
  refine aopsC_ask 63 (.bool (meetB p.f p.t q.f q.t)) 13 #[ivV p, ivV q] (by kernel_rfl) (by kernel_rfl) (by kernel_rfl) (by kernel_rfl) (orc13 _ _ _ _ _ _) ?_
  refine aopsC_go 2 (by kernel_rfl) ?_
  refine aopsC_pt 66 (.pointer (some ⟨B, 0 + k * 3, none⟩)) (by kernel_rfl) (by kernel_rfl) (by kernel_rfl) (by kernel_rfl) ((by kernel_rfl : _ = val (bif k.blt len then some (.pointer (some ⟨B, 0 + k * 3, none⟩)) else none) H).trans (by rw [hbk]; rfl)) ?_
  refine aopsC_get 67 (ivV q) (by kernel_rfl) (by kernel_rfl) (by kernel_rfl) (veq3 _ _ _) ((by kernel_rfl : _ = val (aload T1 40 (.pointer (some ⟨B, 0 + k * 3, none⟩)) H) H).trans (val_of (load40 hob hk))) ?_
  refine aopsC_go 2 (by kernel_rfl) ?_
  refine aopsC_pt 70 (.pointer (some ⟨B, 0 + i * 3, none⟩)) (by kernel_rfl) (by kernel_rfl) (by kernel_rfl) (by kernel_rfl) ((by kernel_rfl : _ = val (bif i.blt len then some (.pointer (some ⟨B, 0 + i * 3, none⟩)) else none) H).trans (by rw [hbi]; rfl)) ?_
  refine aopsC_get 71 (ivV p) (by kernel_rfl) (by kernel_rfl) (by kernel_rfl) (veq3 _ _ _) ((by kernel_rfl : _ = val (aload T1 40 (.pointer (some ⟨B, 0 + i * 3, none⟩)) H) H).trans (val_of (load40 hob hi))) ?_
  refine aopsC_ask 72 (.bool (meetB q.f q.t p.f p.t)) 13 #[ivV q, ivV p] (by kernel_rfl) (by kernel_rfl) (by kernel_rfl) (by kernel_rfl) (orc13 _ _ _ _ _ _) ?_
  refine aopsC_go 2 (by kernel_rfl) ?_
  refine aopsC_see 74 (.bool false) ((by kernel_rfl : _ = some (.bool (meetB p.f p.t q.f q.t != meetB q.f q.t p.f p.t))).trans (by rw [meet_comm]; simp)) ?_
  refine aopsC_go 4 (by kernel_rfl) ?_
  refine aopsC_see 78 (.bool true) ((by kernel_rfl : _ = some (.bool ((i : Int) == (k : Int)))).trans (by rw [hik])) ?_
  refine aopsC_go 2 (by kernel_rfl) ?_
  refine aopsC_pt 81 (.pointer (some ⟨B, 0 + i * 3, none⟩)) (by kernel_rfl) (by kernel_rfl) (by kernel_rfl) (by kernel_rfl) ((by kernel_rfl : _ = val (bif i.blt len then some (.pointer (some ⟨B, 0 + i * 3, none⟩)) else none) H).trans (by rw [hbi]; rfl)) ?_
  refine aopsC_get 82 (ivV p) (by kernel_rfl) (by kernel_rfl) (by kernel_rfl) (veq3 _ _ _) ((by kernel_rfl : _ = val (aload T1 40 (.pointer (some ⟨B, 0 + i * 3, none⟩)) H) H).trans (val_of (load40 hob hi))) ?_
  refine aopsC_go 2 (by kernel_rfl) ?_
  refine aopsC_pt 85 (.pointer (some ⟨B, 0 + k * 3, none⟩)) (by kernel_rfl) (by kernel_rfl) (by kernel_rfl) (by kernel_rfl) ((by kernel_rfl : _ = val (bif k.blt len then some (.pointer (some ⟨B, 0 + k * 3, none⟩)) else none) H).trans (by rw [hbk]; rfl)) ?_
  refine aopsC_get 86 (ivV q) (by kernel_rfl) (by kernel_rfl) (by kernel_rfl) (veq3 _ _ _) ((by kernel_rfl : _ = val (aload T1 40 (.pointer (some ⟨B, 0 + k * 3, none⟩)) H) H).trans (val_of (load40 hob hk))) ?_
  refine aopsC_ask 87 (.bool (meetB p.f p.t q.f q.t)) 13 #[ivV p, ivV q] (by kernel_rfl) (by kernel_rfl) (by kernel_rfl) (by kernel_rfl) (orc13 _ _ _ _ _ _) ?_
  refine aopsC_go 1 (by kernel_rfl) ?_
  refine aopsC_see 88 (.bool false) ((by kernel_rfl : _ = some (.bool (!meetB p.f p.t q.f q.t))).trans (by rw [hm]; rfl)) ?_
  refine aopsC_go 2 (by kernel_rfl) ?_
  exact aopsC_end (by kernel_rfl) (hq _ (knows ⟨by kernel_rfl, by kernel_rfl, by kernel_rfl, by kernel_rfl, by kernel_rfl, by kernel_rfl, by kernel_rfl, True.intro⟩) (by kernel_rfl))
theorem reg16_f (hq : ∀ s', Knows s' (N0 n (Rw B len) false i k) → s'.H = H → Q .normal s') : A1 a16 Q (N0 n (Rw B len) false i k) d H := by
  unfold A1
  rw [r16]
  refine aw_drawC ?_
  refine aopsC_go 19 (by kernel_rfl) ?_
  exact aopsC_end (by kernel_rfl) (hq _ (knows ⟨by kernel_rfl, by kernel_rfl, by kernel_rfl, by kernel_rfl, by kernel_rfl, by kernel_rfl, True.intro⟩) (by kernel_rfl))
theorem reg16_eq (hik : ((i : Int) == (k : Int)) = true) (hq : ∀ s', Knows s' (N0 n (Rw B len) true i k) → s'.H = H → Q .normal s') : A1 a16 Q (N0 n (Rw B len) true i k) d H := by
  unfold A1
  rw [r16]
  refine aw_drawC ?_
  refine aopsC_go 6 (by kernel_rfl) ?_
  refine aopsC_see 96 (.bool true) ((by kernel_rfl : _ = some (.bool ((i : Int) == (k : Int)))).trans (by rw [hik])) ?_
  refine aopsC_go 13 (by kernel_rfl) ?_
  exact aopsC_end (by kernel_rfl) (hq _ (knows ⟨by kernel_rfl, by kernel_rfl, by kernel_rfl, by kernel_rfl, by kernel_rfl, by kernel_rfl, True.intro⟩) (by kernel_rfl))
theorem reg16_ne (hbi : i.blt len = true) (hbk : k.blt len = true) (hob : H.get B = some ob) (hi : (ob.cells.drop (0 + i * 3)).take 3 = [.int .i64 p.v, .int .i64 p.f, .int .i64 p.t]) (hk : (ob.cells.drop (0 + k * 3)).take 3 = [.int .i64 q.v, .int .i64 q.f, .int .i64 q.t]) (hik : ((i : Int) == (k : Int)) = false) (hq : ∀ s', Knows s' (N0 n (Rw B len) (!meetB p.f p.t q.f q.t) i k) → s'.H = H → Q .normal s') : A1 a16 Q (N0 n (Rw B len) true i k) d H := by
  unfold A1
  rw [r16]
  refine aw_drawC ?_
  refine aopsC_go 6 (by kernel_rfl) ?_
  refine aopsC_see 96 (.bool false) ((by kernel_rfl : _ = some (.bool ((i : Int) == (k : Int)))).trans (by rw [hik])) ?_
  refine aopsC_go 2 (by kernel_rfl) ?_
  refine aopsC_pt 99 (.pointer (some ⟨B, 0 + i * 3, none⟩)) (by kernel_rfl) (by kernel_rfl) (by kernel_rfl) (by kernel_rfl) ((by kernel_rfl : _ = val (bif i.blt len then some (.pointer (some ⟨B, 0 + i * 3, none⟩)) else none) H).trans (by rw [hbi]; rfl)) ?_
  refine aopsC_get 100 (ivV p) (by kernel_rfl) (by kernel_rfl) (by kernel_rfl) (veq3 _ _ _) ((by kernel_rfl : _ = val (aload T1 40 (.pointer (some ⟨B, 0 + i * 3, none⟩)) H) H).trans (val_of (load40 hob hi))) ?_
  refine aopsC_go 2 (by kernel_rfl) ?_
  refine aopsC_pt 103 (.pointer (some ⟨B, 0 + k * 3, none⟩)) (by kernel_rfl) (by kernel_rfl) (by kernel_rfl) (by kernel_rfl) ((by kernel_rfl : _ = val (bif k.blt len then some (.pointer (some ⟨B, 0 + k * 3, none⟩)) else none) H).trans (by rw [hbk]; rfl)) ?_
  refine aopsC_get 104 (ivV q) (by kernel_rfl) (by kernel_rfl) (by kernel_rfl) (veq3 _ _ _) ((by kernel_rfl : _ = val (aload T1 40 (.pointer (some ⟨B, 0 + k * 3, none⟩)) H) H).trans (val_of (load40 hob hk))) ?_
  refine aopsC_ask 105 (.bool (meetB p.f p.t q.f q.t)) 13 #[ivV p, ivV q] (by kernel_rfl) (by kernel_rfl) (by kernel_rfl) (by kernel_rfl) (orc13 _ _ _ _ _ _) ?_
  refine aopsC_go 4 (by kernel_rfl) ?_
  exact aopsC_end (by kernel_rfl) (hq _ (knows ⟨by kernel_rfl, by kernel_rfl, by kernel_rfl, by kernel_rfl, by kernel_rfl, by kernel_rfl, True.intro⟩) (by kernel_rfl))
end
end Me
end Go.Proofs.Ytahikechkggbfaa
