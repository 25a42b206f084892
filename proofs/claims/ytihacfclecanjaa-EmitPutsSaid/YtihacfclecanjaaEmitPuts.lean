/- EmitPuts answers true for every input, and leaves its arguments as they were: states are put into a machine, and got, as the document says. No condition. -/
import Derived.Test.YtihacfclecanjaaNh
import Derived.Test.YtihacfclecanjaaNz
namespace Go.Proofs.Ytihacfclecanjaa.emitPuts
open Go Go.Ev Go.ChangeShapes Go.WideShapes Go.ChangeAt Go.RowKit Ls
set_option linter.unusedVariables false
set_option linter.unusedSimpArgs false
theorem walk {y0 y3 y7 y8 y9 y10 y11 y14 : Int} {y4 y5 y6 y12 y13 y15 : Bool} {w1 w2 : Value} {d r : List Int} {u1 : Value} {l1 : List Int} {e2 : Int} {W : World} (hd : InRow W w1 (tab uC d) d.length) (wd : ∀ x ∈ d, (Lit.int .u32 x).wf = true) (bd : d.length * 4 ≤ 140737488355328) (hr : InRow W w2 (tab uC r) r.length) (wr : ∀ x ∈ r, (Lit.int .u32 x).wf = true) (br : r.length * 4 ≤ 140737488355328) (g3 : (Lit.int .u32 y3).wf = true) (g14 : (Lit.int .u64 y14).wf = true) (g0 : (Lit.int .u32 y0).wf = true) (h1 : InRow W u1 (tab uC l1) l1.length) (w1' : ∀ x ∈ l1, (Lit.int .u32 x).wf = true) (ge2 : (Lit.int .i64 e2).wf = true) :
    Calls Try.prog 4 #[.agg #[.int .u32 y0, w1, w2, .int .u32 y3, .bool y4, .bool y5, .bool y6, .int .u32 y7, .int .u32 y8, .int .u32 y9, .int .u32 y10, .int .u32 y11, .bool y12, .bool y13, .int .u64 y14, .bool y15], u1, .int .i64 e2] W fun e w' => e = .returned (.bool true) ∧ Below W.heap.size W w' := by
 letI : Bs := ⟨W, W.heap.size⟩
 obtain ⟨x0, m0, H0, s0, a0, b0, c0⟩ := (SRep.start (P := Try.prog) (onbs_any W)).in_ ok_T15 (e := 22) (es := 1) (by kernel_rfl) hd (tab_plain uC_pl _) (tab_len uC_len _) (by decide)
 obtain ⟨x1, m1, H1, s1, a1, b1, c1⟩ := s0.in_ ok_T15 (e := 22) (es := 1) (by kernel_rfl) hr (tab_plain uC_pl _) (tab_len uC_len _) (by decide)
 obtain ⟨x2, m2, H2, s2, a2, b2, c2⟩ := s1.in_ ok_T15 (e := 22) (es := 1) (by kernel_rfl) h1 (tab_plain uC_pl _) (tab_len uC_len _) (by decide)
 exact calls_s ok_T15 (emitputs_s (q := ⟨y0, y3, y7, y8, y9, y10, y11, y14, y4, y5, y6, y12, y13, y15⟩) (V32_of wd) (V32_of wr) bd br (wf_u32 g3) (wf_u64' g14) (wf_u32 g0) (V32_of w1') (len_max h1) (by have := wf_i64 ge2; simp [i64B]; omega)) (fun r h q => q.1) rfl s2
  ⟨RV.agg ⟨RV.same rfl, ((c0.mono b1 a1).mono b2 a2), (c1.mono b2 a2), RV.same rfl, RV.same rfl, RV.same rfl, RV.same rfl, RV.same rfl, RV.same rfl, RV.same rfl, RV.same rfl, RV.same rfl, RV.same rfl, RV.same rfl, RV.same rfl, RV.same rfl, True.intro⟩, c2, RV.same rfl, True.intro⟩
set_option maxRecDepth 100000 in
theorem lifted (os : Os) (started : os.Started) (H : Type) (enc : TypeId × Value → H) :
    ReturnsInHanded {} Try.checked os 4 .any (Rows.emitPutsSpec.pre6 enc Try.prog Try.f4 Rows.emitPutsRow.domain false) (Rows.emitPutsSpec.post enc Try.prog Try.f4 false true false false) := by
 refine returnsInHanded_of_change_sized (C := Try.checked) own started (by kernel_rfl) Try.func4
  (ChangeSpec.witness6 (enc := enc) (C := Try.checked) false ⟨#[], #[.agg #[.int .u32 0, .slice none 0 0, .slice none 0 0, .int .u32 0, .bool false, .bool false, .bool false, .int .u32 0, .int .u32 0, .int .u32 0, .int .u32 0, .int .u32 0, .bool false, .bool false, .int .u64 0, .bool false], .slice none 0 0, .int .i64 0], []⟩ 8 (by kernel_rfl) (by kernel_rfl) (by kernel_rfl) (by kernel_rfl)) ?_
 intro W base args ds gs before hval0 hW hcnd hsz _
 have hval : ∀ (j : Nat) t v, Try.f4.params[j]? = some t → args[j]? = some v → Value.okWide Try.prog W .any base t v := hval0
 have hW' := hW
 obtain ⟨p, q, hA0, hV, rfl, hfz, hnd⟩ := hW
 have hA : DataW.TrodAll enc Try.prog W 0 (fun _ => true) true Try.f4.params.toList args.toList ds p := hA0
 rw [Try.params4] at hA hval
 obtain ⟨v0, vs0, d0, ds0, p0, q0, hargs, rfl, rfl, h0, r0⟩ := trodAll_cons hA
 obtain ⟨v1, vs1, d1, ds1, p1, q1, rfl, rfl, rfl, h1, r1⟩ := trodAll_cons r0
 obtain ⟨v2, vs2, d2, ds2, p2, q2, rfl, rfl, rfl, h2, r2⟩ := trodAll_cons r1
 obtain ⟨rfl, rfl, rfl⟩ := trodAll_nil r2
 obtain rfl : args = #[v0, v1, v2] := by cases args; simp_all
 obtain ⟨rfl, rfl⟩ := trodVars_none hV
 clear hA0 hval0
 obtain ⟨y0, w1, d, w2, r, y3, y4, y5, y6, y7, y8, y9, y10, y11, y12, y13, y14, y15, rfl, g0, hd, wd, zd, hr, wr, zr, g3, g7, g8, g9, g10, g11, g14⟩ := open_T35 (hval 0 35 v0 rfl rfl) h0
 obtain ⟨aa1, qq1, mm1, rfl⟩ := okWide_slice Try.underlying32 (hval 1 32 v1 rfl rfl)
 obtain ⟨l1, i1, f1, sz1⟩ := in_ints_w Try.underlying32 Try.underlying22 (by kernel_rfl) (ec := uC) (fun _ => rfl) (hval 1 32 _ rfl rfl) h1
 obtain ⟨e2, rfl, ge2⟩ := in_int Try.underlying3 (hval 2 3 v2 rfl rfl) h2
 simp only [List.append_nil, List.nil_append] at hW'
 have hlt0 : ∀ x ∈ p0, x.block < W.heap.size := fun x hx => hW'.lt x (by simp [hx])
 have hlt1 : ∀ x ∈ p1, x.block < W.heap.size := fun x hx => hW'.lt x (by simp [hx])
 have hlt2 : ∀ x ∈ p2, x.block < W.heap.size := fun x hx => hW'.lt x (by simp [hx])
 refine (walk hd wd (bytes4 (zd (weight_of hsz (j := 0) (t := 35) rfl rfl)) (by kernel_rfl)) hr wr (bytes4 (zr (weight_of hsz (j := 0) (t := 35) rfl rfl)) (by kernel_rfl)) g3 g14 g0 i1 f1 ge2).mono fun e W' ⟨he, hbl⟩ => ?_
 subst he
 exact ⟨_, rfl, post_of_below (pv := []) hW' (fun _ _ _ => (trodAll_cons_mk (shut_bool Try.underlying4 _) trodAll_mk0))
  (fun sp hsp => (trodAll_cons_mk (WideElems.Trod_stays laidOut (by kernel_rfl) (of_decide_eq_true (by kernel_rfl)) h0 (fun x hx => hbl.same (hlt0 x hx)) (fun x hx => hsp x (by simp [hx]))) (trodAll_cons_mk (WideElems.Trod_stays laidOut (by kernel_rfl) (of_decide_eq_true (by kernel_rfl)) h1 (fun x hx => hbl.same (hlt1 x hx)) (fun x hx => hsp x (by simp [hx]))) (trodAll_cons_mk (WideElems.Trod_stays laidOut (by kernel_rfl) (of_decide_eq_true (by kernel_rfl)) h2 (fun x hx => hbl.same (hlt2 x hx)) (fun x hx => hsp x (by simp [hx]))) trodAll_mk0)))) (fun _ _ => rfl) (by simp) hbl (ok_one (by kernel_rfl) rfl (okWide_bool_mk Try.underlying4 _))⟩
theorem over : Rows.emitPutsRow.holds Try.pinned (OpenSpec.ofChange Rows.emitPutsSpec) :=
 OpenClaim.holds_of_wide 4 Try.f4 rfl rfl rfl rfl rfl rfl rfl ⟨rfl, rfl, rfl, rfl, rfl⟩ rfl rfl rfl rfl rfl (by kernel_rfl) Try.func4 (by kernel_rfl)
  (of_decide_eq_true (by kernel_rfl)) (by unfold Func.isWrapper; first | (rw [if_pos (by decide +kernel)]; kernel_rfl) | (rw [if_neg (by decide +kernel)]; exact ⟨rfl, rfl⟩))
  (fun os started H enc _ => lifted os started H enc)
theorem proved : Rows.EmitPutsSaid :=
 over
#print axioms proved
end Go.Proofs.Ytihacfclecanjaa.emitPuts
