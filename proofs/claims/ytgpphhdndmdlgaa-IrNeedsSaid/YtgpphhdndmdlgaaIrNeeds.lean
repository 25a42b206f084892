/- IrNeeds answers true for every input, and leaves its arguments as they were: a block that is lowered needs just as many words as make it not trap: one word less, or one more on top, and it does not fit. No condition. -/
import Derived.Test.YtgpphhdndmdlgaaPj
import Derived.Test.YtgpphhdndmdlgaaPi
namespace Go.Proofs.Ytgpphhdndmdlgaa.irNeeds
open Go Go.Ev Go.ChangeShapes Go.WideShapes Go.ChangeAt Go.RowKit Ls
set_option linter.unusedVariables false
set_option linter.unusedSimpArgs false
theorem walk {u1 u2 : Value} {l1 l2 : List Int} {pc : Int} {W : World} (gp : (Lit.int .u32 pc).wf = true) (h1 : InRow W u1 (tab inC l1) l1.length) (w1' : ∀ x ∈ l1, (Lit.int .i64 x).wf = true) (h2 : InRow W u2 (tab uC l2) l2.length) (w2' : ∀ x ∈ l2, (Lit.int .u32 x).wf = true) :
    Calls Try.prog 6 #[.int .u32 pc, u1, u2] W fun e w' => e = .returned (.bool true) ∧ Below W.heap.size W w' := by
  letI : Bs := ⟨W, W.heap.size⟩
  obtain ⟨x0, m0, H0, s0, a0, b0, c0⟩ := (SRep.start (P := Try.prog) (onbs_any W)).in_ ok_T20 (e := 3) (es := 1) (by kernel_rfl) h1 (tab_plain inC_pl _) (tab_len inC_len _) (by decide)
  obtain ⟨x1, m1, H1, s1, a1, b1, c1⟩ := s0.in_ ok_T20 (e := 22) (es := 1) (by kernel_rfl) h2 (tab_plain uC_pl _) (tab_len uC_len _) (by decide)
  exact calls_s ok_T20 (irneeds_s (wf_u32 gp) (i64_of w1') (V32_of w2') (len_max h1) (len_max h2)) (fun r h q => q.1) rfl s1
    ⟨RV.same rfl, (c0.mono b1 a1), c1, True.intro⟩
set_option maxRecDepth 100000 in
theorem lifted (os : Os) (started : os.Started) (H : Type) (enc : TypeId × Value → H) :
    ReturnsInHanded {} Try.checked os 6 .any (Rows.irNeedsSpec.pre6 enc Try.prog Try.f6 Rows.irNeedsRow.domain false) (Rows.irNeedsSpec.post enc Try.prog Try.f6 false true false false) := by
  refine returnsInHanded_of_change_sized (C := Try.checked) own started (by kernel_rfl) Try.func6
    (ChangeSpec.witness6 (enc := enc) (C := Try.checked) false ⟨#[], #[.int .u32 0, .slice none 0 0, .slice none 0 0], []⟩ 8 (by kernel_rfl) (by kernel_rfl) (by kernel_rfl) (by kernel_rfl)) ?_
  intro W base args ds gs before hval0 hW hcnd hsz _
  have hval : ∀ (j : Nat) t v, Try.f6.params[j]? = some t → args[j]? = some v → Value.okWide Try.prog W .any base t v := hval0
  have hW' := hW
  obtain ⟨p, q, hA0, hV, rfl, hfz, hnd⟩ := hW
  have hA : DataW.TrodAll enc Try.prog W 0 (fun _ => true) true Try.f6.params.toList args.toList ds p := hA0
  rw [Try.params6] at hA hval
  obtain ⟨v0, vs0, d0, ds0, p0, q0, hargs, rfl, rfl, h0, r0⟩ := trodAll_cons hA
  obtain ⟨v1, vs1, d1, ds1, p1, q1, rfl, rfl, rfl, h1, r1⟩ := trodAll_cons r0
  obtain ⟨v2, vs2, d2, ds2, p2, q2, rfl, rfl, rfl, h2, r2⟩ := trodAll_cons r1
  obtain ⟨rfl, rfl, rfl⟩ := trodAll_nil r2
  obtain rfl : args = #[v0, v1, v2] := by cases args; simp_all
  obtain ⟨rfl, rfl⟩ := trodVars_none hV
  clear hA0 hval0
  obtain ⟨o0, rfl, f0⟩ := in_int Try.underlying22 (hval 0 22 v0 rfl rfl) h0
  obtain ⟨aa1, qq1, mm1, rfl⟩ := okWide_slice Try.underlying23 (hval 1 23 v1 rfl rfl)
  obtain ⟨l1, i1, f1, sz1⟩ := in_ints_w Try.underlying23 Try.underlying3 (by kernel_rfl) (ec := inC) (fun _ => rfl) (hval 1 23 _ rfl rfl) h1
  obtain ⟨aa2, qq2, mm2, rfl⟩ := okWide_slice Try.underlying24 (hval 2 24 v2 rfl rfl)
  obtain ⟨l2, i2, f2, sz2⟩ := in_ints_w Try.underlying24 Try.underlying22 (by kernel_rfl) (ec := uC) (fun _ => rfl) (hval 2 24 _ rfl rfl) h2
  simp only [List.append_nil, List.nil_append] at hW'
  have hlt0 : ∀ x ∈ p0, x.block < W.heap.size := fun x hx => hW'.lt x (by simp [hx])
  have hlt1 : ∀ x ∈ p1, x.block < W.heap.size := fun x hx => hW'.lt x (by simp [hx])
  have hlt2 : ∀ x ∈ p2, x.block < W.heap.size := fun x hx => hW'.lt x (by simp [hx])
  refine (walk f0 i1 f1 i2 f2).mono fun e W' ⟨he, hbl⟩ => ?_
  subst he
  exact ⟨_, rfl, post_of_below (pv := []) hW' (fun _ _ _ => (trodAll_cons_mk (shut_bool Try.underlying4 _) trodAll_mk0))
    (fun sp hsp => (trodAll_cons_mk (WideElems.Trod_stays laidOut (by kernel_rfl) (of_decide_eq_true (by kernel_rfl)) h0 (fun x hx => hbl.same (hlt0 x hx)) (fun x hx => hsp x (by simp [hx]))) (trodAll_cons_mk (WideElems.Trod_stays laidOut (by kernel_rfl) (of_decide_eq_true (by kernel_rfl)) h1 (fun x hx => hbl.same (hlt1 x hx)) (fun x hx => hsp x (by simp [hx]))) (trodAll_cons_mk (WideElems.Trod_stays laidOut (by kernel_rfl) (of_decide_eq_true (by kernel_rfl)) h2 (fun x hx => hbl.same (hlt2 x hx)) (fun x hx => hsp x (by simp [hx]))) trodAll_mk0)))) (fun _ _ => rfl) (by simp) hbl (ok_one (by kernel_rfl) rfl (okWide_bool_mk Try.underlying4 _))⟩
theorem over : Rows.irNeedsRow.holds Try.pinned (OpenSpec.ofChange Rows.irNeedsSpec) :=
  OpenClaim.holds_of_wide 6 Try.f6 rfl rfl rfl rfl rfl rfl rfl ⟨rfl, rfl, rfl, rfl, rfl⟩ rfl rfl rfl rfl rfl (by kernel_rfl) Try.func6 (by kernel_rfl)
    (of_decide_eq_true (by kernel_rfl)) (by unfold Func.isWrapper; first | (rw [if_pos (by decide +kernel)]; kernel_rfl) | (rw [if_neg (by decide +kernel)]; exact ⟨rfl, rfl⟩))
    (fun os started H enc _ => lifted os started H enc)
theorem proved : Rows.IrNeedsSaid :=
  over
#print axioms proved
end Go.Proofs.Ytgpphhdndmdlgaa.irNeeds
