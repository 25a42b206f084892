/- The machine's small calls: SetReg, Reg, Word, At. -/
import Derived.Test.YtjhijpfbokklcaaHb
namespace Go.Proofs.Ytjhijpfbokklcaa
open Go Go.Ev Go.RowKit
set_option linter.unusedVariables false
set_option linter.unusedSimpArgs false
set_option maxRecDepth 100000
namespace Hs
theorem und42 : T4.under 42 = some (.int .u64) := by kernel_rfl
theorem und30 : T4.under 30 = some (.int .u32) := by kernel_rfl
theorem und3 : T4.under 3 = some (.int .i64) := by kernel_rfl
theorem und56 : T4.under 56 = some (.slice 30) := by kernel_rfl
theorem und22 : T4.under 22 = some (.slice 48) := by kernel_rfl
theorem size42 : T4.size 42 = some 1 := by kernel_rfl
theorem size30 : T4.size 30 = some 1 := by kernel_rfl
theorem size3 : T4.size 3 = some 1 := by kernel_rfl
theorem size56 : T4.size 56 = some 1 := by kernel_rfl
theorem size22 : T4.size 22 = some 1 := by kernel_rfl
theorem size48 : T4.size 48 = some 5 := by kernel_rfl
section
variable {H : Heap} {b q : Nat} {ob : Ob} {x : Value}
theorem load1 {t : TypeId} {d : TypeDesc} (hu : T4.under t = some d) (hs : T4.size t = some 1) (hd : isRow d = false) (hob : H.get b = some ob) (hx : ob.cells[q]? = some x) : aload T4 t (.pointer (some ⟨b, q, none⟩)) H = some x := by
  unfold aload
  simp only [hob, hu, hs, hd, cond_false, hx]
theorem load42 (hob : H.get b = some ob) (hx : ob.cells[q]? = some x) : aload T4 42 (.pointer (some ⟨b, q, none⟩)) H = some x := load1 und42 size42 rfl hob hx
theorem load30 (hob : H.get b = some ob) (hx : ob.cells[q]? = some x) : aload T4 30 (.pointer (some ⟨b, q, none⟩)) H = some x := load1 und30 size30 rfl hob hx
theorem load3 (hob : H.get b = some ob) (hx : ob.cells[q]? = some x) : aload T4 3 (.pointer (some ⟨b, q, none⟩)) H = some x := load1 und3 size3 rfl hob hx
theorem load56 (hob : H.get b = some ob) (hx : ob.cells[q]? = some x) : aload T4 56 (.pointer (some ⟨b, q, none⟩)) H = some x := load1 und56 size56 rfl hob hx
theorem load22 (hob : H.get b = some ob) (hx : ob.cells[q]? = some x) : aload T4 22 (.pointer (some ⟨b, q, none⟩)) H = some x := load1 und22 size22 rfl hob hx
theorem store1 {t : TypeId} {cs : List Value} {e : TypeId} (hs : T4.size t = some 1) (hob : H.get b = some ⟨cs, e, false⟩) (hx : x.cells = #[x]) (h1 : one x = true) (hq : q < cs.length) : astore T4 t (.pointer (some ⟨b, q, none⟩)) x H = some (H.put b ⟨cs.set q x, e, false⟩) := by
  unfold astore
  simp only [hs, hx]
  have e1 : (#[x] : Array Value).size.beq 1 = true := rfl
  rw [e1]
  simp only [cond_true]
  unfold aput
  simp only [hob]
  have e2 : [x].all one = true := by simp [h1]
  have e3 : (q + [x].length).ble cs.length = true := by rw [ble_dec]; simp; omega
  simp only [e2, e3, Bool.not_false, Bool.and_self, cond_true]
  rfl
end
/-- The machine, its words, its code of one instruction. -/
structure MH (H : Heap) (M W C : Nat) (Rl ws : List Value) (op E at_ : Int) : Prop where
  m : H.get M = some ⟨Rl ++ [.slice (some ⟨W, 0, none⟩) 4 4, .slice (some ⟨C, 0, none⟩) 1 (unk + 5), .int .i64 at_], 62, false⟩
  rl : Rl.length = 16
  w : H.get W = some ⟨ws, 30, false⟩
  wl : ws.length = 4
  c : H.get C = some ⟨[.int .i64 op, .int .i64 0, .int .i64 0, .int .i64 0, .int .u32 E], 48, false⟩
  mw : M ≠ W
  mc : M ≠ C
  wc : W ≠ C
  mn : M < H.n
  wn : W < H.n
  cn : C < H.n
section
variable {H : Heap} {M W C : Nat} {Rl ws : List Value} {op E at_ : Int}
theorem MH.i16 (h : MH H M W C Rl ws op E at_) : (Rl ++ [.slice (some ⟨W, 0, none⟩) 4 4, .slice (some ⟨C, 0, none⟩) 1 (unk + 5), .int .i64 at_])[16]? = some (.slice (some ⟨W, 0, none⟩) 4 4) := by
  rw [List.getElem?_append_right (by rw [h.rl]; omega), h.rl]; rfl
theorem MH.i17 (h : MH H M W C Rl ws op E at_) : (Rl ++ [.slice (some ⟨W, 0, none⟩) 4 4, .slice (some ⟨C, 0, none⟩) 1 (unk + 5), .int .i64 at_])[17]? = some (.slice (some ⟨C, 0, none⟩) 1 (unk + 5)) := by
  rw [List.getElem?_append_right (by rw [h.rl]; omega), h.rl]; rfl
theorem MH.i18 (h : MH H M W C Rl ws op E at_) : (Rl ++ [.slice (some ⟨W, 0, none⟩) 4 4, .slice (some ⟨C, 0, none⟩) 1 (unk + 5), .int .i64 at_])[18]? = some (.int .i64 at_) := by
  rw [List.getElem?_append_right (by rw [h.rl]; omega), h.rl]; rfl
theorem MH.ireg (h : MH H M W C Rl ws op E at_) {k : Nat} {x : Value} (hk : Rl[k]? = some x) : (Rl ++ [.slice (some ⟨W, 0, none⟩) 4 4, .slice (some ⟨C, 0, none⟩) 1 (unk + 5), .int .i64 at_])[k]? = some x := by
  have := (List.getElem?_eq_some_iff.1 hk).1
  rw [List.getElem?_append_left this]; exact hk
/-- Nothing that was there is another. -/
theorem MH.ext (h : MH H M W C Rl ws op E at_) {H' : Heap} (he : Ext H H') : MH H' M W C Rl ws op E at_ :=
  ⟨by rw [he.get _ h.mn]; exact h.m, h.rl, by rw [he.get _ h.wn]; exact h.w, h.wl, by rw [he.get _ h.cn]; exact h.c, h.mw, h.mc, h.wc, Nat.lt_of_lt_of_le h.mn he.n, Nat.lt_of_lt_of_le h.wn he.n, Nat.lt_of_lt_of_le h.cn he.n⟩
abbrev Pm (M : Nat) : Value := .pointer (some ⟨M, 0, none⟩)
theorem setreg_ev {k : Nat} {v : Int} {cells : List Value} (hm : H.get M = some ⟨cells, 62, false⟩) (hl : cells.length = 19) (hk : k < 16) :
    ACall Try.prog T4 17 #[Pm M, .int .i64 (k : Int), .int .u64 v] H fun r H' => r = .bool true ∧ H' = H.put M ⟨cells.set k (.int .u64 v), 62, false⟩ := by
  refine acall_of' 19 (initTm 0 #[Pm M, .int .i64 (k : Int), .int .u64 v]) rfl fn17 f17_body rfl rfl ?_
  rw [f17b_eq]
  refine aw_then ?_
  rw [f17r0_eq]
  refine aw_reg ?_
  refine aops_go 1 9 (by kernel_rfl) (aops_end (by kernel_rfl) (then_normal ?_))
  rw [f17n1_eq]
  refine aw_then ?_
  rw [f17n2_eq]
  refine aw_then ?_
  rw [f17r1_eq]
  refine aw_reg ?_
  refine aops_go 3 9 (by kernel_rfl) ?_
  refine aops_see 9 (.bool false) ((by kernel_rfl : _ = some (.bool (decide ((k : Int) < 0)))).trans (by simp)) ?_
  refine aops_go 2 9 (by kernel_rfl) ?_
  refine aops_see 11 (.bool false) ((by kernel_rfl : _ = some (.bool (decide ((k : Int) ≥ 16)))).trans (by simp; omega)) ?_
  refine aops_go 1 9 (by kernel_rfl) (aops_end (by kernel_rfl) (then_normal ?_))
  rw [f17n3_eq]
  refine aw_cond (t := false) (by kernel_rfl) (aw_skip (then_normal ?_))
  rw [f17n5_eq]
  refine aw_then ?_
  rw [f17r3_eq]
  refine aw_reg ?_
  refine aops_go 5 9 (by kernel_rfl) ?_
  refine aops_val 18 (.pointer (some ⟨M, k, none⟩)) H (by kernel_rfl) (by kernel_rfl) (by kernel_rfl) ((by kernel_rfl : _ = val (bif k.blt 16 then some (.pointer (some ⟨M, 0 + k * 1, none⟩)) else none) H).trans (by rw [show k.blt 16 = true from by rw [blt_dec]; simp [hk]]; simp [val])) ?_
  refine aops_skip (H.put M ⟨cells.set k (.int .u64 v), 62, false⟩) (by kernel_rfl) (by kernel_rfl) (by kernel_rfl) ((by kernel_rfl : _ = skp (astore T4 42 (.pointer (some ⟨M, k, none⟩)) (.int .u64 v) H)).trans (by rw [store1 size42 hm rfl rfl (by omega)]; rfl)) ?_
  refine aops_end (by kernel_rfl) (then_normal ?_)
  rw [f17n6_eq]
  refine aw_then ?_
  rw [f17r4_eq]
  refine aw_reg ?_
  refine aops_go 1 9 (by kernel_rfl) (aops_end (by kernel_rfl) (then_normal ?_))
  exact aw_ret (bodyQ_ret ⟨.bool true, by kernel_rfl, rfl, by kernel_rfl⟩)
theorem reg_ev (h : MH H M W C Rl ws op E at_) {r0 : Int} (h0 : Rl[0]? = some (.int .u64 r0)) : ACall Try.prog T4 18 #[Pm M, .int .i64 0] H fun r H' => r = .int .u64 r0 ∧ H' = H := by
  refine acall_of' 17 (initTm 0 #[Pm M, .int .i64 0]) rfl fn18 f18_body rfl rfl ?_
  rw [f18b_eq]
  refine aw_then ?_
  rw [f18r0_eq]
  refine aw_reg ?_
  refine aops_go 1 9 (by kernel_rfl) (aops_end (by kernel_rfl) (then_normal ?_))
  rw [f18n1_eq]
  refine aw_then ?_
  rw [f18n2_eq]
  refine aw_then ?_
  rw [f18r1_eq]
  refine aw_reg ?_
  refine aops_go 6 9 (by kernel_rfl) (aops_end (by kernel_rfl) (then_normal ?_))
  rw [f18n3_eq]
  refine aw_cond (t := false) (by kernel_rfl) (aw_skip (then_normal ?_))
  rw [f18n5_eq]
  refine aw_then ?_
  rw [f18r3_eq]
  refine aw_reg ?_
  refine aops_go 5 9 (by kernel_rfl) ?_
  refine aops_val 16 (.int .u64 r0) H (by kernel_rfl) (by kernel_rfl) (by kernel_rfl) ((by kernel_rfl : _ = val (aload T4 42 (.pointer (some ⟨M, 0, none⟩)) H) H).trans (val_of (load42 h.m (h.ireg h0)))) ?_
  refine aops_go 1 9 (by kernel_rfl) (aops_end (by kernel_rfl) (then_normal ?_))
  exact aw_ret (bodyQ_ret ⟨.int .u64 r0, by kernel_rfl, rfl, by kernel_rfl⟩)
theorem at_ev (h : MH H M W C Rl ws op E at_) : ACall Try.prog T4 13 #[Pm M] H fun r H' => r = .int .i64 at_ ∧ H' = H := by
  refine acall_of' 7 (initTm 0 #[Pm M]) rfl fn13 f13_body rfl rfl ?_
  rw [f13b_eq]
  refine aw_then ?_
  rw [f13r0_eq]
  refine aw_reg ?_
  refine aops_go 1 9 (by kernel_rfl) (aops_end (by kernel_rfl) (then_normal ?_))
  rw [f13n1_eq]
  refine aw_then ?_
  rw [f13r1_eq]
  refine aw_reg ?_
  refine aops_go 3 9 (by kernel_rfl) ?_
  refine aops_val 6 (.int .i64 at_) H (by kernel_rfl) (by kernel_rfl) (by kernel_rfl) ((by kernel_rfl : _ = val (aload T4 3 (.pointer (some ⟨M, 18, none⟩)) H) H).trans (val_of (load3 h.m h.i18))) ?_
  refine aops_go 1 9 (by kernel_rfl) (aops_end (by kernel_rfl) (then_normal ?_))
  exact aw_ret (bodyQ_ret ⟨.int .i64 at_, by kernel_rfl, rfl, by kernel_rfl⟩)
theorem word_ev (h : MH H M W C Rl ws op E at_) {w0 : Int} (h0 : ws[0]? = some (.int .u32 w0)) : ACall Try.prog T4 19 #[Pm M, .int .i64 0] H fun r H' => r = .int .u32 w0 ∧ H' = H := by
  refine acall_of' 23 (initTm 0 #[Pm M, .int .i64 0]) rfl fn19 f19_body rfl rfl ?_
  rw [f19b_eq]
  refine aw_then ?_
  rw [f19r0_eq]
  refine aw_reg ?_
  refine aops_go 1 9 (by kernel_rfl) (aops_end (by kernel_rfl) (then_normal ?_))
  rw [f19n1_eq]
  refine aw_then ?_
  rw [f19n2_eq]
  refine aw_then ?_
  rw [f19r1_eq]
  refine aw_reg ?_
  refine aops_go 7 9 (by kernel_rfl) ?_
  refine aops_val 12 (.slice (some ⟨W, 0, none⟩) 4 4) H (by kernel_rfl) (by kernel_rfl) (by kernel_rfl) ((by kernel_rfl : _ = val (aload T4 56 (.pointer (some ⟨M, 16, none⟩)) H) H).trans (val_of (load56 h.m h.i16))) ?_
  refine aops_go 3 9 (by kernel_rfl) (aops_end (by kernel_rfl) (then_normal ?_))
  rw [f19n3_eq]
  refine aw_cond (t := false) (by kernel_rfl) (aw_skip (then_normal ?_))
  rw [f19n5_eq]
  refine aw_then ?_
  rw [f19r3_eq]
  refine aw_reg ?_
  refine aops_go 3 9 (by kernel_rfl) ?_
  refine aops_val 19 (.slice (some ⟨W, 0, none⟩) 4 4) H (by kernel_rfl) (by kernel_rfl) (by kernel_rfl) ((by kernel_rfl : _ = val (aload T4 56 (.pointer (some ⟨M, 16, none⟩)) H) H).trans (val_of (load56 h.m h.i16))) ?_
  refine aops_go 2 9 (by kernel_rfl) ?_
  refine aops_val 22 (.int .u32 w0) H (by kernel_rfl) (by kernel_rfl) (by kernel_rfl) ((by kernel_rfl : _ = val (aload T4 30 (.pointer (some ⟨W, 0, none⟩)) H) H).trans (val_of (load30 h.w h0))) ?_
  refine aops_go 1 9 (by kernel_rfl) (aops_end (by kernel_rfl) (then_normal ?_))
  exact aw_ret (bodyQ_ret ⟨.int .u32 w0, by kernel_rfl, rfl, by kernel_rfl⟩)
end
end Hs
end Go.Proofs.Ytjhijpfbokklcaa
