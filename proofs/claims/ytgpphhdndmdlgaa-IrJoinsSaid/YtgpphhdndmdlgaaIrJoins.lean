/- IrJoins answers true for every input, and leaves its arguments as they were: a block, and another one behind it, are what both are in one, if neither ends ahead of that. No condition. -/
import Derived.Test.YtgpphhdndmdlgaaPn
import Derived.Test.YtgpphhdndmdlgaaPi
namespace Go.Proofs.Ytgpphhdndmdlgaa.irJoins
open Go Go.Ev Go.ChangeShapes Go.WideShapes Go.ChangeAt Go.RowKit Ls
set_option linter.unusedVariables false
set_option linter.unusedSimpArgs false
theorem walk {u1 u2 u3 : Value} {l1 l2 l3 : List Int} {pc : Int} {y0 y3 y7 y8 y9 y10 y11 y14 : Int} {y4 y5 y6 y12 y13 y15 : Bool} {w1 w2 : Value} {d r : List Int} {W : World} (gp : (Lit.int .u32 pc).wf = true) (h1 : InRow W u1 (tab inC l1) l1.length) (w1' : ∀ x ∈ l1, (Lit.int .i64 x).wf = true) (h2 : InRow W u2 (tab inC l2) l2.length) (w2' : ∀ x ∈ l2, (Lit.int .i64 x).wf = true) (h3 : InRow W u3 (tab uC l3) l3.length) (w3' : ∀ x ∈ l3, (Lit.int .u32 x).wf = true) (hd : InRow W w1 (tab uC d) d.length) (wd : ∀ x ∈ d, (Lit.int .u32 x).wf = true) (bd : d.length * 4 ≤ 140737488355328) (hr : InRow W w2 (tab uC r) r.length) (wr : ∀ x ∈ r, (Lit.int .u32 x).wf = true) (br : r.length * 4 ≤ 140737488355328) (g3 : (Lit.int .u32 y3).wf = true) (g14 : (Lit.int .u64 y14).wf = true) :
    Calls Try.prog 4 #[.int .u32 pc, u1, u2, u3, .agg #[.int .u32 y0, w1, w2, .int .u32 y3, .bool y4, .bool y5, .bool y6, .int .u32 y7, .int .u32 y8, .int .u32 y9, .int .u32 y10, .int .u32 y11, .bool y12, .bool y13, .int .u64 y14, .bool y15]] W fun e w' => e = .returned (.bool true) ∧ Below W.heap.size W w' := by
  letI : Bs := ⟨W, W.heap.size⟩
  obtain ⟨x0, m0, H0, s0, a0, b0, c0⟩ := (SRep.start (P := Try.prog) (onbs_any W)).in_ ok_T20 (e := 3) (es := 1) (by kernel_rfl) h1 (tab_plain inC_pl _) (tab_len inC_len _) (by decide)
  obtain ⟨x1, m1, H1, s1, a1, b1, c1⟩ := s0.in_ ok_T20 (e := 3) (es := 1) (by kernel_rfl) h2 (tab_plain inC_pl _) (tab_len inC_len _) (by decide)
  obtain ⟨x2, m2, H2, s2, a2, b2, c2⟩ := s1.in_ ok_T20 (e := 22) (es := 1) (by kernel_rfl) h3 (tab_plain uC_pl _) (tab_len uC_len _) (by decide)
  obtain ⟨x3, m3, H3, s3, a3, b3, c3⟩ := s2.in_ ok_T20 (e := 22) (es := 1) (by kernel_rfl) hd (tab_plain uC_pl _) (tab_len uC_len _) (by decide)
  obtain ⟨x4, m4, H4, s4, a4, b4, c4⟩ := s3.in_ ok_T20 (e := 22) (es := 1) (by kernel_rfl) hr (tab_plain uC_pl _) (tab_len uC_len _) (by decide)
  exact calls_s ok_T20 (irjoins_s (q := ⟨y0, y3, y7, y8, y9, y10, y11, y14, y4, y5, y6, y12, y13, y15⟩) (wf_u32 gp) (i64_of w1') (i64_of w2') (V32_of w3') (len_max h1) (len_max h2) (len_max h3) (V32_of wd) (V32_of wr) bd br (wf_u32 g3)) (fun r h q => q.1) rfl s4
    ⟨RV.same rfl, ((((c0.mono b1 a1).mono b2 a2).mono b3 a3).mono b4 a4), (((c1.mono b2 a2).mono b3 a3).mono b4 a4), ((c2.mono b3 a3).mono b4 a4), RV.agg ⟨RV.same rfl, (c3.mono b4 a4), c4, RV.same rfl, RV.same rfl, RV.same rfl, RV.same rfl, RV.same rfl, RV.same rfl, RV.same rfl, RV.same rfl, RV.same rfl, RV.same rfl, RV.same rfl, RV.same rfl, RV.same rfl, True.intro⟩, True.intro⟩
set_option maxRecDepth 100000 in
theorem lifted (os : Os) (started : os.Started) (H : Type) (enc : TypeId × Value → H) :
    ReturnsInHanded {} Try.checked os 4 .any (Rows.irJoinsSpec.pre6 enc Try.prog Try.f4 Rows.irJoinsRow.domain false) (Rows.irJoinsSpec.post enc Try.prog Try.f4 false true false false) := by
  refine returnsInHanded_of_change_sized (C := Try.checked) own started (by kernel_rfl) Try.func4
    (ChangeSpec.witness6 (enc := enc) (C := Try.checked) false ⟨#[], #[.int .u32 0, .slice none 0 0, .slice none 0 0, .slice none 0 0, .agg #[.int .u32 0, .slice none 0 0, .slice none 0 0, .int .u32 0, .bool false, .bool false, .bool false, .int .u32 0, .int .u32 0, .int .u32 0, .int .u32 0, .int .u32 0, .bool false, .bool false, .int .u64 0, .bool false]], []⟩ 8 (by kernel_rfl) (by kernel_rfl) (by kernel_rfl) (by kernel_rfl)) ?_
  intro W base args ds gs before hval0 hW hcnd hsz _
  have hval : ∀ (j : Nat) t v, Try.f4.params[j]? = some t → args[j]? = some v → Value.okWide Try.prog W .any base t v := hval0
  have hW' := hW
  obtain ⟨p, q, hA0, hV, rfl, hfz, hnd⟩ := hW
  have hA : DataW.TrodAll enc Try.prog W 0 (fun _ => true) true Try.f4.params.toList args.toList ds p := hA0
  rw [Try.params4] at hA hval
  obtain ⟨v0, vs0, d0, ds0, p0, q0, hargs, rfl, rfl, h0, r0⟩ := trodAll_cons hA
  obtain ⟨v1, vs1, d1, ds1, p1, q1, rfl, rfl, rfl, h1, r1⟩ := trodAll_cons r0
  obtain ⟨v2, vs2, d2, ds2, p2, q2, rfl, rfl, rfl, h2, r2⟩ := trodAll_cons r1
  obtain ⟨v3, vs3, d3, ds3, p3, q3, rfl, rfl, rfl, h3, r3⟩ := trodAll_cons r2
  obtain ⟨v4, vs4, d4, ds4, p4, q4, rfl, rfl, rfl, h4, r4⟩ := trodAll_cons r3
  obtain ⟨rfl, rfl, rfl⟩ := trodAll_nil r4
  obtain rfl : args = #[v0, v1, v2, v3, v4] := by cases args; simp_all
  obtain ⟨rfl, rfl⟩ := trodVars_none hV
  clear hA0 hval0
  obtain ⟨o0, rfl, f0⟩ := in_int Try.underlying22 (hval 0 22 v0 rfl rfl) h0
  obtain ⟨aa1, qq1, mm1, rfl⟩ := okWide_slice Try.underlying23 (hval 1 23 v1 rfl rfl)
  obtain ⟨l1, i1, f1, sz1⟩ := in_ints_w Try.underlying23 Try.underlying3 (by kernel_rfl) (ec := inC) (fun _ => rfl) (hval 1 23 _ rfl rfl) h1
  obtain ⟨aa2, qq2, mm2, rfl⟩ := okWide_slice Try.underlying23 (hval 2 23 v2 rfl rfl)
  obtain ⟨l2, i2, f2, sz2⟩ := in_ints_w Try.underlying23 Try.underlying3 (by kernel_rfl) (ec := inC) (fun _ => rfl) (hval 2 23 _ rfl rfl) h2
  obtain ⟨aa3, qq3, mm3, rfl⟩ := okWide_slice Try.underlying24 (hval 3 24 v3 rfl rfl)
  obtain ⟨l3, i3, f3, sz3⟩ := in_ints_w Try.underlying24 Try.underlying22 (by kernel_rfl) (ec := uC) (fun _ => rfl) (hval 3 24 _ rfl rfl) h3
  obtain ⟨y0, w1, d, w2, r, y3, y4, y5, y6, y7, y8, y9, y10, y11, y12, y13, y14, y15, rfl, g0, hd, wd, zd, hr, wr, zr, g3, g7, g8, g9, g10, g11, g14⟩ := open_T27 (hval 4 27 v4 rfl rfl) h4
  simp only [List.append_nil, List.nil_append] at hW'
  have hlt0 : ∀ x ∈ p0, x.block < W.heap.size := fun x hx => hW'.lt x (by simp [hx])
  have hlt1 : ∀ x ∈ p1, x.block < W.heap.size := fun x hx => hW'.lt x (by simp [hx])
  have hlt2 : ∀ x ∈ p2, x.block < W.heap.size := fun x hx => hW'.lt x (by simp [hx])
  have hlt3 : ∀ x ∈ p3, x.block < W.heap.size := fun x hx => hW'.lt x (by simp [hx])
  have hlt4 : ∀ x ∈ p4, x.block < W.heap.size := fun x hx => hW'.lt x (by simp [hx])
  refine (walk f0 i1 f1 i2 f2 i3 f3 hd wd (bytes4 (zd (weight_of hsz (j := 4) (t := 27) rfl rfl)) (by kernel_rfl)) hr wr (bytes4 (zr (weight_of hsz (j := 4) (t := 27) rfl rfl)) (by kernel_rfl)) g3 g14).mono fun e W' ⟨he, hbl⟩ => ?_
  subst he
  exact ⟨_, rfl, post_of_below (pv := []) hW' (fun _ _ _ => (trodAll_cons_mk (shut_bool Try.underlying4 _) trodAll_mk0))
    (fun sp hsp => (trodAll_cons_mk (WideElems.Trod_stays laidOut (by kernel_rfl) (of_decide_eq_true (by kernel_rfl)) h0 (fun x hx => hbl.same (hlt0 x hx)) (fun x hx => hsp x (by simp [hx]))) (trodAll_cons_mk (WideElems.Trod_stays laidOut (by kernel_rfl) (of_decide_eq_true (by kernel_rfl)) h1 (fun x hx => hbl.same (hlt1 x hx)) (fun x hx => hsp x (by simp [hx]))) (trodAll_cons_mk (WideElems.Trod_stays laidOut (by kernel_rfl) (of_decide_eq_true (by kernel_rfl)) h2 (fun x hx => hbl.same (hlt2 x hx)) (fun x hx => hsp x (by simp [hx]))) (trodAll_cons_mk (WideElems.Trod_stays laidOut (by kernel_rfl) (of_decide_eq_true (by kernel_rfl)) h3 (fun x hx => hbl.same (hlt3 x hx)) (fun x hx => hsp x (by simp [hx]))) (trodAll_cons_mk (WideElems.Trod_stays laidOut (by kernel_rfl) (of_decide_eq_true (by kernel_rfl)) h4 (fun x hx => hbl.same (hlt4 x hx)) (fun x hx => hsp x (by simp [hx]))) trodAll_mk0)))))) (fun _ _ => rfl) (by simp) hbl (ok_one (by kernel_rfl) rfl (okWide_bool_mk Try.underlying4 _))⟩
theorem over : Rows.irJoinsRow.holds Try.pinned (OpenSpec.ofChange Rows.irJoinsSpec) :=
  OpenClaim.holds_of_wide 4 Try.f4 rfl rfl rfl rfl rfl rfl rfl ⟨rfl, rfl, rfl, rfl, rfl⟩ rfl rfl rfl rfl rfl (by kernel_rfl) Try.func4 (by kernel_rfl)
    (of_decide_eq_true (by kernel_rfl)) (by unfold Func.isWrapper; first | (rw [if_pos (by decide +kernel)]; kernel_rfl) | (rw [if_neg (by decide +kernel)]; exact ⟨rfl, rfl⟩))
    (fun os started H enc _ => lifted os started H enc)
theorem proved : Rows.IrJoinsSaid :=
  over
#print axioms proved
end Go.Proofs.Ytgpphhdndmdlgaa.irJoins
