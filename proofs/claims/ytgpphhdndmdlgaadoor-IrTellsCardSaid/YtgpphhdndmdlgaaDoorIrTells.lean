/- IrTells answers true for every input, and leaves its arguments as they were: blocks are judged, evaluated and told as the document says, right or not. The package variables that it reads start as the program's text lays them (the card ties them). -/
import Derived.Test.YtgpphhdndmdlgaaDoorTw
import Derived.Test.YtgpphhdndmdlgaaDoorTh
namespace Go.Proofs.YtgpphhdndmdlgaaDoor.irTells
open Go Go.Ev Go.ChangeShapes Go.WideShapes Go.ChangeAt Go.RowKit Ls
set_option linter.unusedVariables false
set_option linter.unusedSimpArgs false
theorem walk {z0 z1 z2 z3 z4 z5 : Value} {xo xa xb xi xd xr : List Int} {e6 e7 e8 e9 e10 e11 e12 e13 e14 e15 e17 : Int} {e16 : Bool} {y0 y3 y7 y8 y9 y10 y11 y14 : Int} {y4 y5 y6 y12 y13 y15 : Bool} {w1 w2 : Value} {d r : List Int} {W : World} (hL : laidMetH Tryd.prog laid3 W) (hz0 : InRow W z0 (tab inC xo) xo.length) (wz0 : ∀ x ∈ xo, (Lit.int .i64 x).wf = true) (hz1 : InRow W z1 (tab inC xa) xa.length) (wz1 : ∀ x ∈ xa, (Lit.int .i64 x).wf = true) (hz2 : InRow W z2 (tab inC xb) xb.length) (wz2 : ∀ x ∈ xb, (Lit.int .i64 x).wf = true) (hz3 : InRow W z3 (tab uC xi) xi.length) (wz3 : ∀ x ∈ xi, (Lit.int .u32 x).wf = true) (hz4 : InRow W z4 (tab inC xd) xd.length) (wz4 : ∀ x ∈ xd, (Lit.int .i64 x).wf = true) (hz5 : InRow W z5 (tab inC xr) xr.length) (wz5 : ∀ x ∈ xr, (Lit.int .i64 x).wf = true) (ge6 : (Lit.int .i64 e6).wf = true) (ge7 : (Lit.int .i64 e7).wf = true) (ge8 : (Lit.int .i64 e8).wf = true) (ge9 : (Lit.int .i64 e9).wf = true) (ge10 : (Lit.int .i64 e10).wf = true) (ge11 : (Lit.int .i64 e11).wf = true) (ge12 : (Lit.int .i64 e12).wf = true) (ge13 : (Lit.int .i64 e13).wf = true) (ge17 : (Lit.int .i64 e17).wf = true) (hd : InRow W w1 (tab uC d) d.length) (wd : ∀ x ∈ d, (Lit.int .u32 x).wf = true) (bd : d.length * 4 ≤ 140737488355328) (hr : InRow W w2 (tab uC r) r.length) (wr : ∀ x ∈ r, (Lit.int .u32 x).wf = true) (br : r.length * 4 ≤ 140737488355328) (g3 : (Lit.int .u32 y3).wf = true) (g14 : (Lit.int .u64 y14).wf = true) :
    Calls Tryd.prog 3 #[.agg #[z0, z1, z2, z3, z4, z5, .int .i64 e6, .int .i64 e7, .int .i64 e8, .int .i64 e9, .int .i64 e10, .int .i64 e11, .int .i64 e12, .int .i64 e13, .int .u32 e14, .int .u32 e15, .bool e16, .int .i64 e17], .agg #[.int .u32 y0, w1, w2, .int .u32 y3, .bool y4, .bool y5, .bool y6, .int .u32 y7, .int .u32 y8, .int .u32 y9, .int .u32 y10, .int .u32 y11, .bool y12, .bool y13, .int .u64 y14, .bool y15]] W fun e w' => e = .returned (.bool true) ∧ Below W.heap.size W w' := by
 letI : Bs := ⟨W, W.heap.size⟩
 letI : Tb := tb_of (tab_of_laid hL)
 obtain ⟨x0, m0, H0, s0, a0, b0, c0⟩ := (SRep.start (P := Tryd.prog) (onbs_any W)).in_ ok_T20 (e := 3) (es := 1) (by kernel_rfl) hz0 (tab_plain inC_pl _) (tab_len inC_len _) (by decide)
 obtain ⟨x1, m1, H1, s1, a1, b1, c1⟩ := s0.in_ ok_T20 (e := 3) (es := 1) (by kernel_rfl) hz1 (tab_plain inC_pl _) (tab_len inC_len _) (by decide)
 obtain ⟨x2, m2, H2, s2, a2, b2, c2⟩ := s1.in_ ok_T20 (e := 3) (es := 1) (by kernel_rfl) hz2 (tab_plain inC_pl _) (tab_len inC_len _) (by decide)
 obtain ⟨x3, m3, H3, s3, a3, b3, c3⟩ := s2.in_ ok_T20 (e := 24) (es := 1) (by kernel_rfl) hz3 (tab_plain uC_pl _) (tab_len uC_len _) (by decide)
 obtain ⟨x4, m4, H4, s4, a4, b4, c4⟩ := s3.in_ ok_T20 (e := 3) (es := 1) (by kernel_rfl) hz4 (tab_plain inC_pl _) (tab_len inC_len _) (by decide)
 obtain ⟨x5, m5, H5, s5, a5, b5, c5⟩ := s4.in_ ok_T20 (e := 3) (es := 1) (by kernel_rfl) hz5 (tab_plain inC_pl _) (tab_len inC_len _) (by decide)
 obtain ⟨x6, m6, H6, s6, a6, b6, c6⟩ := s5.in_ ok_T20 (e := 24) (es := 1) (by kernel_rfl) hd (tab_plain uC_pl _) (tab_len uC_len _) (by decide)
 obtain ⟨x7, m7, H7, s7, a7, b7, c7⟩ := s6.in_ ok_T20 (e := 24) (es := 1) (by kernel_rfl) hr (tab_plain uC_pl _) (tab_len uC_len _) (by decide)
 exact calls_s ok_T20 (irtells_s (q := ⟨y0, y3, y7, y8, y9, y10, y11, y14, y4, y5, y6, y12, y13, y15⟩) (i64_of wz0) (i64_of wz1) (i64_of wz2) (V32_of wz3) (i64_of wz4) (i64_of wz5) (by have := wf_i64 ge6; simp [i64B]; omega) (by have := wf_i64 ge7; simp [i64B]; omega) (by have := wf_i64 ge8; simp [i64B]; omega) (by have := wf_i64 ge9; simp [i64B]; omega) (by have := wf_i64 ge10; simp [i64B]; omega) (by have := wf_i64 ge11; simp [i64B]; omega) (by have := wf_i64 ge12; simp [i64B]; omega) (by have := wf_i64 ge13; simp [i64B]; omega) (len_max hz0) (len_max hz1) (len_max hz2) (len_max hz3) (len_max hz4) (len_max hz5) (by have := wf_i64 ge17; simp [i64B]; omega) (V32_of wd) (V32_of wr) bd br (wf_u32 g3) (wf_u64' g14)) (fun r h q => q.1) rfl s7
  ⟨RV.agg ⟨(((((((c0.mono b1 a1).mono b2 a2).mono b3 a3).mono b4 a4).mono b5 a5).mono b6 a6).mono b7 a7), ((((((c1.mono b2 a2).mono b3 a3).mono b4 a4).mono b5 a5).mono b6 a6).mono b7 a7), (((((c2.mono b3 a3).mono b4 a4).mono b5 a5).mono b6 a6).mono b7 a7), ((((c3.mono b4 a4).mono b5 a5).mono b6 a6).mono b7 a7), (((c4.mono b5 a5).mono b6 a6).mono b7 a7), ((c5.mono b6 a6).mono b7 a7), RV.same rfl, RV.same rfl, RV.same rfl, RV.same rfl, RV.same rfl, RV.same rfl, RV.same rfl, RV.same rfl, RV.same rfl, RV.same rfl, RV.same rfl, RV.same rfl, True.intro⟩, RV.agg ⟨RV.same rfl, (c6.mono b7 a7), c7, RV.same rfl, RV.same rfl, RV.same rfl, RV.same rfl, RV.same rfl, RV.same rfl, RV.same rfl, RV.same rfl, RV.same rfl, RV.same rfl, RV.same rfl, RV.same rfl, RV.same rfl, True.intro⟩, True.intro⟩
set_option maxRecDepth 100000 in
theorem lifted (os : Os) (started : os.Started) (H : Type) (enc : TypeId × Value → H) :
    ReturnsInHanded {} Tryd.checked os 3 .any (fun w args => (Rows.irTellsSpec.pre enc Tryd.prog Tryd.f3 [] false w args ∧ laidMetH Tryd.prog laid3 w) ∧ sizedMet enc Tryd.prog Tryd.f3 (OpenSpec.ofChange Rows.irTellsSpec) false w args)
     (Rows.irTellsSpec.post enc Tryd.prog Tryd.f3 false true false false) := by
 refine returnsInHanded_of_change_and (C := Tryd.checked) (X := fun w _ => laidMetH Tryd.prog laid3 w) (fun _ _ _ hh h => h.of_heap hh) own started (by kernel_rfl) Tryd.func3
  (ChangeSpec.witness_shaped (enc := enc) (C := Tryd.checked) (os := os) (X := fun w _ => laidMetH Tryd.prog laid3 w) false (World.doorLaid Tryd.prog 400 os) #[.agg #[.slice none 0 0, .slice none 0 0, .slice none 0 0, .slice none 0 0, .slice none 0 0, .slice none 0 0, .int .i64 0, .int .i64 0, .int .i64 0, .int .i64 0, .int .i64 0, .int .i64 0, .int .i64 0, .int .i64 0, .int .u32 0, .int .u32 0, .bool false, .int .i64 0], .agg #[.int .u32 0, .slice none 0 0, .slice none 0 0, .int .u32 0, .bool false, .bool false, .bool false, .int .u32 0, .int .u32 0, .int .u32 0, .int .u32 0, .int .u32 0, .bool false, .bool false, .int .u64 0, .bool false]] 8 rfl (World.shaped_of_RefB (by kernel_rfl) (by kernel_rfl)) (by kernel_rfl) (by kernel_rfl) (by kernel_rfl) (door_met os _)) ?_
 intro W base args ds gs before hval0 hW hcnd hsz hL _
 have hval : ∀ (j : Nat) t v, Tryd.f3.params[j]? = some t → args[j]? = some v → Value.okWide Tryd.prog W .any base t v := hval0
 have hW' := hW
 obtain ⟨p, q, hA0, hV, rfl, hfz, hnd⟩ := hW
 have hA : DataW.TrodAll enc Tryd.prog W 0 (fun _ => true) true Tryd.f3.params.toList args.toList ds p := hA0
 rw [Tryd.params3] at hA hval
 obtain ⟨v0, vs0, d0, ds0, p0, q0, hargs, rfl, rfl, h0, r0⟩ := trodAll_cons hA
 obtain ⟨v1, vs1, d1, ds1, p1, q1, rfl, rfl, rfl, h1, r1⟩ := trodAll_cons r0
 obtain ⟨rfl, rfl, rfl⟩ := trodAll_nil r1
 obtain rfl : args = #[v0, v1] := by cases args; simp_all
 obtain ⟨rfl, rfl⟩ := trodVars_none hV
 clear hA0 hval0
 obtain ⟨z0, xo, z1, xa, z2, xb, z3, xi, z4, xd, z5, xr, e6, e7, e8, e9, e10, e11, e12, e13, e14, e15, e16, e17, rfl, hz0, wz0, _, hz1, wz1, _, hz2, wz2, _, hz3, wz3, _, hz4, wz4, _, hz5, wz5, _, ge6, ge7, ge8, ge9, ge10, ge11, ge12, ge13, ge14, ge15, ge17⟩ := open_T26 (hval 0 26 v0 rfl rfl) h0
 obtain ⟨y0, w1, d, w2, r, y3, y4, y5, y6, y7, y8, y9, y10, y11, y12, y13, y14, y15, rfl, g0, hd, wd, zd, hr, wr, zr, g3, g7, g8, g9, g10, g11, g14⟩ := open_T29 (hval 1 29 v1 rfl rfl) h1
 simp only [List.append_nil, List.nil_append] at hW'
 have hlt0 : ∀ x ∈ p0, x.block < W.heap.size := fun x hx => hW'.lt x (by simp [hx])
 have hlt1 : ∀ x ∈ p1, x.block < W.heap.size := fun x hx => hW'.lt x (by simp [hx])
 refine (walk hL hz0 wz0 hz1 wz1 hz2 wz2 hz3 wz3 hz4 wz4 hz5 wz5 ge6 ge7 ge8 ge9 ge10 ge11 ge12 ge13 ge17 hd wd (bytes4 (zd (weight_of hsz (j := 1) (t := 29) rfl rfl)) (by kernel_rfl)) hr wr (bytes4 (zr (weight_of hsz (j := 1) (t := 29) rfl rfl)) (by kernel_rfl)) g3 g14).mono fun e W' ⟨he, hbl⟩ => ?_
 subst he
 exact ⟨_, rfl, post_of_below (pv := []) hW' (fun _ _ _ => (trodAll_cons_mk (shut_bool Tryd.underlying4 _) trodAll_mk0))
  (fun sp hsp => (trodAll_cons_mk (WideElems.Trod_stays laidOut (by kernel_rfl) (of_decide_eq_true (by kernel_rfl)) h0 (fun x hx => hbl.same (hlt0 x hx)) (fun x hx => hsp x (by simp [hx]))) (trodAll_cons_mk (WideElems.Trod_stays laidOut (by kernel_rfl) (of_decide_eq_true (by kernel_rfl)) h1 (fun x hx => hbl.same (hlt1 x hx)) (fun x hx => hsp x (by simp [hx]))) trodAll_mk0))) (fun _ _ => rfl) (by simp) hbl (ok_one (by kernel_rfl) rfl (okWide_bool_mk Tryd.underlying4 _))⟩
theorem over : Rows.IrTellsSaid :=
 OpenClaim.holds_of_wide 3 Tryd.f3 rfl rfl rfl rfl rfl rfl rfl ⟨rfl, rfl, rfl, rfl, rfl⟩ rfl rfl rfl rfl rfl (by kernel_rfl) Tryd.func3 (by kernel_rfl)
  (of_decide_eq_true (by kernel_rfl)) (by unfold Func.isWrapper; first | (rw [if_pos (by decide +kernel)]; kernel_rfl) | (rw [if_neg (by decide +kernel)]; exact ⟨rfl, rfl⟩))
  (fun os started H enc _ => lifted os started H enc)
theorem proved : Rows.IrTellsCardSaid :=
 Claim7.holds_tied_plain_at .later [] [.data, .data, .data] true Rows.irTellsCard.stood.harness false
  over (fun _ h => by cases h) (by kernel_rfl) (fun _ h => by cases h) irTells_row_tie rfl ⟨rfl, rfl⟩ (by kernel_rfl) rfl
  (fun f fn hf hfn => by
   obtain rfl : f = 3 := Option.some.inj ((show Tryd.prog.funcNamed Tryd.f3.name = some 3 by kernel_rfl).symm.trans hf) |>.symm
   obtain rfl : fn = Tryd.f3 := (Option.some.inj (Tryd.func3.symm.trans hfn)).symm
   exact ⟨by kernel_rfl, fun j t ht => by
    rw [Tryd.params3] at ht
    have hm : t ∈ [26, 29] := by simpa using Array.mem_of_getElem? ht
    have hall : ([26, 29].all fun u => !Tryd.prog.wantsStandIn u) = true := by kernel_rfl
    exact (show Tryd.prog.wantsStandIn t = false by simpa using List.all_eq_true.1 hall t hm)⟩)
  (by kernel_rfl)
#print axioms proved
end Go.Proofs.YtgpphhdndmdlgaaDoor.irTells
