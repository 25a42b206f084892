/- LiveLowers answers true for every input, and leaves its arguments as they were: in a block that is lowered each value is made ahead of its last use, none that is used or left ends ahead of that, and no more press than there are values. No condition. -/
import Derived.Test.YtahikechkggbfaaSx
import Derived.Test.YtahikechkggbfaaSj
namespace Go.Proofs.Ytahikechkggbfaa.liveLowers
open Go Go.Ev Go.ChangeShapes Go.WideShapes Go.ChangeAt Go.RowKit Ls
set_option linter.unusedVariables false
set_option linter.unusedSimpArgs false
theorem i64_of {l : List Int} (h : ∀ x ∈ l, (Lit.int .i64 x).wf = true) : ∀ x ∈ l, Lm.i64B x = true := fun x hx => by
  have := wf_i64 (h x hx)
  simp [Lm.i64B]; omega
theorem walk {u0 u1 : Value} {l0 l1 : List Int} {W : World} (h0 : InRow W u0 (tab inC l0) l0.length) (w0 : ∀ x ∈ l0, (Lit.int .i64 x).wf = true) (h1 : InRow W u1 (tab uC l1) l1.length) (w1 : ∀ x ∈ l1, (Lit.int .u32 x).wf = true) :
    Calls Try.prog 7 #[u0, u1] W fun e w' => e = .returned (.bool true) ∧ Below W.heap.size W w' := by
  letI : Bs := ⟨W, W.heap.size⟩
  obtain ⟨x0, m0, H0, s0, a0, b0, c0⟩ := (SRep.start (P := Try.prog) (onbs_any W)).in_ ok_T8 (e := 3) (es := 1) (by kernel_rfl) h0 (tab_plain inC_pl _) (tab_len inC_len _) (by decide)
  obtain ⟨x1, m1, H1, s1, a1, b1, c1⟩ := s0.in_ ok_T8 (e := 27) (es := 1) (by kernel_rfl) h1 (tab_plain uC_pl _) (tab_len uC_len _) (by decide)
  exact calls_s ok_T8 (lowers_s (i64_of w0) (fun x hx => wf_u32 (w1 x hx)) (by have := h0.len; unfold maxLen at this; omega) (by have := h1.len; unfold maxLen at this; omega)) (fun r h q => q.1) rfl s1
    ⟨(c0.mono b1 a1), c1, True.intro⟩
set_option maxRecDepth 100000 in
theorem lifted (os : Os) (started : os.Started) (H : Type) (enc : TypeId × Value → H) :
    ReturnsInHanded {} Try.checked os 7 .any (Rows.liveLowersSpec.pre6 enc Try.prog Try.f7 Rows.liveLowersRow.domain false) (Rows.liveLowersSpec.post enc Try.prog Try.f7 false true false false) := by
  refine returnsInHanded_of_change (C := Try.checked) own started (by kernel_rfl) Try.func7
    (ChangeSpec.witness6 (enc := enc) (C := Try.checked) false ⟨#[], #[.slice none 0 0, .slice none 0 0], []⟩ 8 (by kernel_rfl) (by kernel_rfl) (by kernel_rfl) (by kernel_rfl)) ?_
  intro W base args ds gs before hval0 hW hcnd _
  have hval : ∀ (j : Nat) t v, Try.f7.params[j]? = some t → args[j]? = some v → Value.okWide Try.prog W .any base t v := hval0
  have hW' := hW
  obtain ⟨p, q, hA0, hV, rfl, hfz, hnd⟩ := hW
  have hA : DataW.TrodAll enc Try.prog W 0 (fun _ => true) true Try.f7.params.toList args.toList ds p := hA0
  rw [Try.params7] at hA hval
  obtain ⟨v0, vs0, d0, ds0, p0, q0, hargs, rfl, rfl, h0, r0⟩ := trodAll_cons hA
  obtain ⟨v1, vs1, d1, ds1, p1, q1, rfl, rfl, rfl, h1, r1⟩ := trodAll_cons r0
  obtain ⟨rfl, rfl, rfl⟩ := trodAll_nil r1
  obtain rfl : args = #[v0, v1] := by cases args; simp_all
  obtain ⟨rfl, rfl⟩ := trodVars_none hV
  clear hA0 hval0
  obtain ⟨aa0, qq0, mm0, rfl⟩ := okWide_slice Try.underlying22 (hval 0 22 v0 rfl rfl)
  obtain ⟨l0, i0, f0⟩ := in_ints Try.underlying22 Try.underlying3 (by kernel_rfl) (ec := inC) (fun _ => rfl) (hval 0 22 _ rfl rfl) h0
  obtain ⟨aa1, qq1, mm1, rfl⟩ := okWide_slice Try.underlying52 (hval 1 52 v1 rfl rfl)
  obtain ⟨l1, i1, f1⟩ := in_ints Try.underlying52 Try.underlying27 (by kernel_rfl) (ec := uC) (fun _ => rfl) (hval 1 52 _ rfl rfl) h1
  simp only [List.append_nil, List.nil_append] at hW'
  have hlt0 : ∀ x ∈ p0, x.block < W.heap.size := fun x hx => hW'.lt x (by simp [hx])
  have hlt1 : ∀ x ∈ p1, x.block < W.heap.size := fun x hx => hW'.lt x (by simp [hx])
  refine (walk i0 f0 i1 f1).mono fun e W' ⟨he, hbl⟩ => ?_
  subst he
  exact ⟨_, rfl, post_of_below (pv := []) hW' (fun _ _ _ => (trodAll_cons_mk (shut_bool Try.underlying4 _) trodAll_mk0))
    (fun sp hsp => (trodAll_cons_mk (WideElems.Trod_stays laidOut (by kernel_rfl) (of_decide_eq_true (by kernel_rfl)) h0 (fun x hx => hbl.same (hlt0 x hx)) (fun x hx => hsp x (by simp [hx]))) (trodAll_cons_mk (WideElems.Trod_stays laidOut (by kernel_rfl) (of_decide_eq_true (by kernel_rfl)) h1 (fun x hx => hbl.same (hlt1 x hx)) (fun x hx => hsp x (by simp [hx]))) trodAll_mk0))) (fun _ _ => rfl) (by simp) hbl (ok_one (by kernel_rfl) rfl (okWide_bool_mk Try.underlying4 _))⟩
theorem over : Rows.liveLowersRow.holds Try.pinned (OpenSpec.ofChange Rows.liveLowersSpec) :=
  OpenClaim.holds_of_wide 7 Try.f7 rfl rfl rfl rfl rfl rfl rfl ⟨rfl, rfl, rfl, rfl, rfl⟩ rfl rfl rfl rfl rfl (by kernel_rfl) Try.func7 (by kernel_rfl)
    (of_decide_eq_true (by kernel_rfl)) (by unfold Func.isWrapper; first | (rw [if_pos (by decide +kernel)]; kernel_rfl) | (rw [if_neg (by decide +kernel)]; exact ⟨rfl, rfl⟩))
    (fun os started H enc _ => lifted os started H enc)
theorem proved : Rows.LiveLowersSaid :=
  over
#print axioms proved
end Go.Proofs.Ytahikechkggbfaa.liveLowers
