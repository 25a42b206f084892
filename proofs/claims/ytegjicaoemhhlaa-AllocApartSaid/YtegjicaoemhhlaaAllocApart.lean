/- AllocApart answers true for every input, and leaves its arguments as they were: a plan that puts two values that meet in one place, or a value in none, is not right, and does nothing. No condition. -/
import Derived.Test.YtegjicaoemhhlaaJy
import Derived.Test.YtegjicaoemhhlaaJz
namespace Go.Proofs.Ytegjicaoemhhlaa.allocApart
open Go Go.Ev Go.ChangeShapes Go.WideShapes Go.ChangeAt Go.RowKit Ls
set_option linter.unusedVariables false
set_option linter.unusedSimpArgs false
theorem walk {z0 z1 z2 : Value} {xa xb xd : List Int} {e3 : Int} {e4 e5 e6 : Int} {y0 y3 y7 y8 y9 y10 y11 y14 : Int} {y4 y5 y6 y12 y13 y15 : Bool} {w1 w2 : Value} {d r : List Int} {W : World} (hz0 : InRow W z0 (tab inC xa) xa.length) (wz0 : ∀ x ∈ xa, (Lit.int .i64 x).wf = true) (hz1 : InRow W z1 (tab inC xb) xb.length) (wz1 : ∀ x ∈ xb, (Lit.int .i64 x).wf = true) (hz2 : InRow W z2 (tab inC xd) xd.length) (wz2 : ∀ x ∈ xd, (Lit.int .i64 x).wf = true) (ge3 : (Lit.int .i64 e3).wf = true) (ge4 : (Lit.int .i64 e4).wf = true) (ge5 : (Lit.int .i64 e5).wf = true) (ge6 : (Lit.int .i64 e6).wf = true) (hd : InRow W w1 (tab uC d) d.length) (wd : ∀ x ∈ d, (Lit.int .u32 x).wf = true) (bd : d.length * 4 ≤ 140737488355328) (hr : InRow W w2 (tab uC r) r.length) (wr : ∀ x ∈ r, (Lit.int .u32 x).wf = true) (br : r.length * 4 ≤ 140737488355328) (g3 : (Lit.int .u32 y3).wf = true) (g14 : (Lit.int .u64 y14).wf = true) :
    Calls Try.prog 5 #[.agg #[z0, z1, z2, .int .i64 e3], .int .i64 e4, .int .i64 e5, .int .i64 e6, .agg #[.int .u32 y0, w1, w2, .int .u32 y3, .bool y4, .bool y5, .bool y6, .int .u32 y7, .int .u32 y8, .int .u32 y9, .int .u32 y10, .int .u32 y11, .bool y12, .bool y13, .int .u64 y14, .bool y15]] W fun e w' => e = .returned (.bool true) ∧ Below W.heap.size W w' := by
  letI : Bs := ⟨W, W.heap.size⟩
  obtain ⟨x0, m0, H0, s0, a0, b0, c0⟩ := (SRep.start (P := Try.prog) (onbs_any W)).in_ ok_T16 (e := 3) (es := 1) (by kernel_rfl) hz0 (tab_plain inC_pl _) (tab_len inC_len _) (by decide)
  obtain ⟨x1, m1, H1, s1, a1, b1, c1⟩ := s0.in_ ok_T16 (e := 3) (es := 1) (by kernel_rfl) hz1 (tab_plain inC_pl _) (tab_len inC_len _) (by decide)
  obtain ⟨x2, m2, H2, s2, a2, b2, c2⟩ := s1.in_ ok_T16 (e := 3) (es := 1) (by kernel_rfl) hz2 (tab_plain inC_pl _) (tab_len inC_len _) (by decide)
  obtain ⟨x3, m3, H3, s3, a3, b3, c3⟩ := s2.in_ ok_T16 (e := 27) (es := 1) (by kernel_rfl) hd (tab_plain uC_pl _) (tab_len uC_len _) (by decide)
  obtain ⟨x4, m4, H4, s4, a4, b4, c4⟩ := s3.in_ ok_T16 (e := 27) (es := 1) (by kernel_rfl) hr (tab_plain uC_pl _) (tab_len uC_len _) (by decide)
  exact calls_s ok_T16 (allocapart_s (q := ⟨y0, y3, y7, y8, y9, y10, y11, y14, y4, y5, y6, y12, y13, y15⟩) (i64_of wz0) (i64_of wz1) (i64_of wz2) (by have := wf_i64 ge3; simp [i64B]; omega) (len_max hz0) (len_max hz1) (len_max hz2) (by have := wf_i64 ge4; simp [i64B]; omega) (by have := wf_i64 ge5; simp [i64B]; omega) (by have := wf_i64 ge6; simp [i64B]; omega) (V32_of wd) (V32_of wr) bd br (wf_u32 g3) (wf_u64' g14)) (fun r h q => q.1) rfl s4
    ⟨RV.agg ⟨((((c0.mono b1 a1).mono b2 a2).mono b3 a3).mono b4 a4), (((c1.mono b2 a2).mono b3 a3).mono b4 a4), ((c2.mono b3 a3).mono b4 a4), RV.same rfl, True.intro⟩, RV.same rfl, RV.same rfl, RV.same rfl, RV.agg ⟨RV.same rfl, (c3.mono b4 a4), c4, RV.same rfl, RV.same rfl, RV.same rfl, RV.same rfl, RV.same rfl, RV.same rfl, RV.same rfl, RV.same rfl, RV.same rfl, RV.same rfl, RV.same rfl, RV.same rfl, RV.same rfl, True.intro⟩, True.intro⟩
set_option maxRecDepth 100000 in
theorem lifted (os : Os) (started : os.Started) (H : Type) (enc : TypeId × Value → H) :
    ReturnsInHanded {} Try.checked os 5 .any (Rows.allocApartSpec.pre6 enc Try.prog Try.f5 Rows.allocApartRow.domain false) (Rows.allocApartSpec.post enc Try.prog Try.f5 false true false false) := by
  refine returnsInHanded_of_change_sized (C := Try.checked) own started (by kernel_rfl) Try.func5
    (ChangeSpec.witness6 (enc := enc) (C := Try.checked) false ⟨#[], #[.agg #[.slice none 0 0, .slice none 0 0, .slice none 0 0, .int .i64 0], .int .i64 0, .int .i64 0, .int .i64 0, .agg #[.int .u32 0, .slice none 0 0, .slice none 0 0, .int .u32 0, .bool false, .bool false, .bool false, .int .u32 0, .int .u32 0, .int .u32 0, .int .u32 0, .int .u32 0, .bool false, .bool false, .int .u64 0, .bool false]], []⟩ 8 (by kernel_rfl) (by kernel_rfl) (by kernel_rfl) (by kernel_rfl)) ?_
  intro W base args ds gs before hval0 hW hcnd hsz _
  have hval : ∀ (j : Nat) t v, Try.f5.params[j]? = some t → args[j]? = some v → Value.okWide Try.prog W .any base t v := hval0
  have hW' := hW
  obtain ⟨p, q, hA0, hV, rfl, hfz, hnd⟩ := hW
  have hA : DataW.TrodAll enc Try.prog W 0 (fun _ => true) true Try.f5.params.toList args.toList ds p := hA0
  rw [Try.params5] at hA hval
  obtain ⟨v0, vs0, d0, ds0, p0, q0, hargs, rfl, rfl, h0, r0⟩ := trodAll_cons hA
  obtain ⟨v1, vs1, d1, ds1, p1, q1, rfl, rfl, rfl, h1, r1⟩ := trodAll_cons r0
  obtain ⟨v2, vs2, d2, ds2, p2, q2, rfl, rfl, rfl, h2, r2⟩ := trodAll_cons r1
  obtain ⟨v3, vs3, d3, ds3, p3, q3, rfl, rfl, rfl, h3, r3⟩ := trodAll_cons r2
  obtain ⟨v4, vs4, d4, ds4, p4, q4, rfl, rfl, rfl, h4, r4⟩ := trodAll_cons r3
  obtain ⟨rfl, rfl, rfl⟩ := trodAll_nil r4
  obtain rfl : args = #[v0, v1, v2, v3, v4] := by cases args; simp_all
  obtain ⟨rfl, rfl⟩ := trodVars_none hV
  clear hA0 hval0
  obtain ⟨z0, xa, z1, xb, z2, xd, e3, rfl, hz0, wz0, _, hz1, wz1, _, hz2, wz2, _, ge3⟩ := open_T24 (hval 0 24 v0 rfl rfl) h0
  obtain ⟨e4, rfl, ge4⟩ := in_int Try.underlying3 (hval 1 3 v1 rfl rfl) h1
  obtain ⟨e5, rfl, ge5⟩ := in_int Try.underlying3 (hval 2 3 v2 rfl rfl) h2
  obtain ⟨e6, rfl, ge6⟩ := in_int Try.underlying3 (hval 3 3 v3 rfl rfl) h3
  obtain ⟨y0, w1, d, w2, r, y3, y4, y5, y6, y7, y8, y9, y10, y11, y12, y13, y14, y15, rfl, g0, hd, wd, zd, hr, wr, zr, g3, g7, g8, g9, g10, g11, g14⟩ := open_T34 (hval 4 34 v4 rfl rfl) h4
  simp only [List.append_nil, List.nil_append] at hW'
  have hlt0 : ∀ x ∈ p0, x.block < W.heap.size := fun x hx => hW'.lt x (by simp [hx])
  have hlt1 : ∀ x ∈ p1, x.block < W.heap.size := fun x hx => hW'.lt x (by simp [hx])
  have hlt2 : ∀ x ∈ p2, x.block < W.heap.size := fun x hx => hW'.lt x (by simp [hx])
  have hlt3 : ∀ x ∈ p3, x.block < W.heap.size := fun x hx => hW'.lt x (by simp [hx])
  have hlt4 : ∀ x ∈ p4, x.block < W.heap.size := fun x hx => hW'.lt x (by simp [hx])
  refine (walk hz0 wz0 hz1 wz1 hz2 wz2 ge3 ge4 ge5 ge6 hd wd (bytes4 (zd (weight_of hsz (j := 4) (t := 34) rfl rfl)) (by kernel_rfl)) hr wr (bytes4 (zr (weight_of hsz (j := 4) (t := 34) rfl rfl)) (by kernel_rfl)) g3 g14).mono fun e W' ⟨he, hbl⟩ => ?_
  subst he
  exact ⟨_, rfl, post_of_below (pv := []) hW' (fun _ _ _ => (trodAll_cons_mk (shut_bool Try.underlying4 _) trodAll_mk0))
    (fun sp hsp => (trodAll_cons_mk (WideElems.Trod_stays laidOut (by kernel_rfl) (of_decide_eq_true (by kernel_rfl)) h0 (fun x hx => hbl.same (hlt0 x hx)) (fun x hx => hsp x (by simp [hx]))) (trodAll_cons_mk (WideElems.Trod_stays laidOut (by kernel_rfl) (of_decide_eq_true (by kernel_rfl)) h1 (fun x hx => hbl.same (hlt1 x hx)) (fun x hx => hsp x (by simp [hx]))) (trodAll_cons_mk (WideElems.Trod_stays laidOut (by kernel_rfl) (of_decide_eq_true (by kernel_rfl)) h2 (fun x hx => hbl.same (hlt2 x hx)) (fun x hx => hsp x (by simp [hx]))) (trodAll_cons_mk (WideElems.Trod_stays laidOut (by kernel_rfl) (of_decide_eq_true (by kernel_rfl)) h3 (fun x hx => hbl.same (hlt3 x hx)) (fun x hx => hsp x (by simp [hx]))) (trodAll_cons_mk (WideElems.Trod_stays laidOut (by kernel_rfl) (of_decide_eq_true (by kernel_rfl)) h4 (fun x hx => hbl.same (hlt4 x hx)) (fun x hx => hsp x (by simp [hx]))) trodAll_mk0)))))) (fun _ _ => rfl) (by simp) hbl (ok_one (by kernel_rfl) rfl (okWide_bool_mk Try.underlying4 _))⟩
theorem over : Rows.allocApartRow.holds Try.pinned (OpenSpec.ofChange Rows.allocApartSpec) :=
  OpenClaim.holds_of_wide 5 Try.f5 rfl rfl rfl rfl rfl rfl rfl ⟨rfl, rfl, rfl, rfl, rfl⟩ rfl rfl rfl rfl rfl (by kernel_rfl) Try.func5 (by kernel_rfl)
    (of_decide_eq_true (by kernel_rfl)) (by unfold Func.isWrapper; first | (rw [if_pos (by decide +kernel)]; kernel_rfl) | (rw [if_neg (by decide +kernel)]; exact ⟨rfl, rfl⟩))
    (fun os started H enc _ => lifted os started H enc)
theorem proved : Rows.AllocApartSaid :=
  over
#print axioms proved
end Go.Proofs.Ytegjicaoemhhlaa.allocApart
