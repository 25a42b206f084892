/- LiveEnds answers true for every input, and leaves its argument as it was: a value that is left lives to the end, one that is not used lives nowhere, a block that is not right has none. No condition. -/
import Derived.Test.YtahikechkggbfaaSi
import Derived.Test.YtahikechkggbfaaSj
namespace Go.Proofs.Ytahikechkggbfaa.liveEnds
open Go Go.Ev Go.ChangeShapes Go.WideShapes Go.ChangeAt Go.RowKit Ls
set_option linter.unusedVariables false
set_option linter.unusedSimpArgs false
theorem i64_of {l : List Int} (h : ∀ x ∈ l, (Lit.int .i64 x).wf = true) : ∀ x ∈ l, Lm.i64B x = true := fun x hx => by
  have := wf_i64 (h x hx)
  simp [Lm.i64B]; omega
theorem walk {u0 u1 u2 u3 : Value} {l0 l1 l2 l3 : List Int} {fl : Int} {wr : Bool} {W : World} (h0 : InRow W u0 (tab inC l0) l0.length) (w0 : ∀ x ∈ l0, (Lit.int .i64 x).wf = true) (h1 : InRow W u1 (tab inC l1) l1.length) (w1 : ∀ x ∈ l1, (Lit.int .i64 x).wf = true) (h2 : InRow W u2 (tab inC l2) l2.length) (w2 : ∀ x ∈ l2, (Lit.int .i64 x).wf = true) (h3 : InRow W u3 (tab inC l3) l3.length) (w3 : ∀ x ∈ l3, (Lit.int .i64 x).wf = true) (hf : (Lit.int .i64 fl).wf = true) :
    Calls Try.prog 6 #[.agg #[u0, u1, u2, u3, .int .i64 fl, .bool wr]] W fun e w' => e = .returned (.bool true) ∧ Below W.heap.size W w' := by
  letI : Bs := ⟨W, W.heap.size⟩
  obtain ⟨x0, m0, H0, s0, a0, b0, c0⟩ := (SRep.start (P := Try.prog) (onbs_any W)).in_ ok_T3 (e := 3) (es := 1) (by kernel_rfl) h0 (tab_plain inC_pl _) (tab_len inC_len _) (by decide)
  obtain ⟨x1, m1, H1, s1, a1, b1, c1⟩ := s0.in_ ok_T3 (e := 3) (es := 1) (by kernel_rfl) h1 (tab_plain inC_pl _) (tab_len inC_len _) (by decide)
  obtain ⟨x2, m2, H2, s2, a2, b2, c2⟩ := s1.in_ ok_T3 (e := 3) (es := 1) (by kernel_rfl) h2 (tab_plain inC_pl _) (tab_len inC_len _) (by decide)
  obtain ⟨x3, m3, H3, s3, a3, b3, c3⟩ := s2.in_ ok_T3 (e := 3) (es := 1) (by kernel_rfl) h3 (tab_plain inC_pl _) (tab_len inC_len _) (by decide)
  exact calls_s ok_T3 (ends_s (i64_of w0) (i64_of w1) (i64_of w2) (i64_of w3) (by have := wf_i64 hf; simp [Lm.i64B]; omega) (by have := h0.len; unfold maxLen at this; omega) (by have := h1.len; unfold maxLen at this; omega) (by have := h2.len; unfold maxLen at this; omega) (by have := h3.len; unfold maxLen at this; omega)) (fun r h q => q.1) rfl s3
    ⟨RV.agg ⟨(((c0.mono b1 a1).mono b2 a2).mono b3 a3), ((c1.mono b2 a2).mono b3 a3), (c2.mono b3 a3), c3, RV.same rfl, RV.same rfl, True.intro⟩, True.intro⟩
set_option maxRecDepth 100000 in
theorem lifted (os : Os) (started : os.Started) (H : Type) (enc : TypeId × Value → H) :
    ReturnsInHanded {} Try.checked os 6 .any (Rows.liveEndsSpec.pre6 enc Try.prog Try.f6 Rows.liveEndsRow.domain false) (Rows.liveEndsSpec.post enc Try.prog Try.f6 false true false false) := by
  refine returnsInHanded_of_change (C := Try.checked) own started (by kernel_rfl) Try.func6
    (ChangeSpec.witness6 (enc := enc) (C := Try.checked) false ⟨#[], #[.agg #[.slice none 0 0, .slice none 0 0, .slice none 0 0, .slice none 0 0, .int .i64 0, .bool false]], []⟩ 8 (by kernel_rfl) (by kernel_rfl) (by kernel_rfl) (by kernel_rfl)) ?_
  intro W base args ds gs before hval0 hW hcnd _
  have hval : ∀ (j : Nat) t v, Try.f6.params[j]? = some t → args[j]? = some v → Value.okWide Try.prog W .any base t v := hval0
  have hW' := hW
  obtain ⟨p, q, hA0, hV, rfl, hfz, hnd⟩ := hW
  have hA : DataW.TrodAll enc Try.prog W 0 (fun _ => true) true Try.f6.params.toList args.toList ds p := hA0
  rw [Try.params6] at hA hval
  obtain ⟨v0, vs0, d0, ds0, p0, q0, hargs, rfl, rfl, h0, r0⟩ := trodAll_cons hA
  obtain ⟨rfl, rfl, rfl⟩ := trodAll_nil r0
  obtain rfl : args = #[v0] := by cases args; simp_all
  obtain ⟨rfl, rfl⟩ := trodVars_none hV
  clear hA0 hval0
  obtain ⟨u0, l0, u1, l1, u2, l2, u3, l3, fl, wr, rfl, i0, f0, i1, f1, i2, f2, i3, f3, g4⟩ := open_T24 (hval 0 24 v0 rfl rfl) h0
  simp only [List.append_nil, List.nil_append] at hW'
  have hlt0 : ∀ x ∈ p0, x.block < W.heap.size := fun x hx => hW'.lt x (by simp [hx])
  refine (walk i0 f0 i1 f1 i2 f2 i3 f3 g4).mono fun e W' ⟨he, hbl⟩ => ?_
  subst he
  exact ⟨_, rfl, post_of_below (pv := []) hW' (fun _ _ _ => (trodAll_cons_mk (shut_bool Try.underlying4 _) trodAll_mk0))
    (fun sp hsp => (trodAll_cons_mk (WideElems.Trod_stays laidOut (by kernel_rfl) (of_decide_eq_true (by kernel_rfl)) h0 (fun x hx => hbl.same (hlt0 x hx)) (fun x hx => hsp x (by simp [hx]))) trodAll_mk0)) (fun _ _ => rfl) (by simp) hbl (ok_one (by kernel_rfl) rfl (okWide_bool_mk Try.underlying4 _))⟩
theorem over : Rows.liveEndsRow.holds Try.pinned (OpenSpec.ofChange Rows.liveEndsSpec) :=
  OpenClaim.holds_of_wide 6 Try.f6 rfl rfl rfl rfl rfl rfl rfl ⟨rfl, rfl, rfl, rfl, rfl⟩ rfl rfl rfl rfl rfl (by kernel_rfl) Try.func6 (by kernel_rfl)
    (of_decide_eq_true (by kernel_rfl)) (by unfold Func.isWrapper; first | (rw [if_pos (by decide +kernel)]; kernel_rfl) | (rw [if_neg (by decide +kernel)]; exact ⟨rfl, rfl⟩))
    (fun os started H enc _ => lifted os started H enc)
theorem proved : Rows.LiveEndsSaid :=
  over
#print axioms proved
end Go.Proofs.Ytahikechkggbfaa.liveEnds
