/- HmachPlays answers true for every input, and leaves its arguments as they were: a machine does any code as the document says, step for step, and in one Run. No condition. -/
import Derived.Test.YtjhijpfbokklcaaPs
import Derived.Test.YtjhijpfbokklcaaPz
namespace Go.Proofs.Ytjhijpfbokklcaa.hmachPlays
open Go Go.Ev Go.ChangeShapes Go.WideShapes Go.ChangeAt Go.RowKit Hm
set_option linter.unusedVariables false
set_option linter.unusedSimpArgs false
theorem walk (A1 A2 A3 : Option Addr) (c1 c2 c3 : Nat) (L : List Ins5) (rs ws : List Int) (t : Bool) (st : Int) (W : World) (hA1 : RowW W A1 (insC L)) (hn1 : A1 = none → L.length = 0) (hL : ∀ i ∈ L, okA i) (hc1 : c1 ≤ maxLen) (hA2 : RowW W A2 (rs.map (Value.int .u64))) (hn2 : A2 = none → rs.length = 0) (hb : ∀ x ∈ rs, 0 ≤ x ∧ x < 18446744073709551616) (hc2 : c2 ≤ maxLen)
    (hA3 : RowW W A3 (ws.map (Value.int .u32))) (hn3 : A3 = none → ws.length = 0) (hw : ∀ x ∈ ws, 0 ≤ x ∧ x < 4294967296) (hc3 : c3 ≤ maxLen) :
    Calls Try.prog 7 #[.slice A1 L.length c1, .slice A2 rs.length c2, .slice A3 ws.length c3, .bool t, .int .i64 st] W fun e w' => e = .returned (.bool true) ∧ Below W.heap.size W w' := by
  letI : Bs := ⟨W, W.heap.size⟩
  obtain ⟨a1, m1, H1, r1, _, _, _, v1, n1⟩ := (RoRep.start (P := Try.prog) (onbs_any W)).row progOk8 (e := 48) (es := 5) (by kernel_rfl) hA1 insC_plain hn1 hc1
  obtain ⟨a2, m2, H2, r2, le2, k1, k2, v2, n2⟩ := r1.row progOk8 (e := 42) (es := 1) (by kernel_rfl) hA2 nums_plain hn2 hc2
  obtain ⟨a3, m3, H3, r3, le3, k3, k4, v3, n3⟩ := r2.row progOk8 (e := 30) (es := 1) (by kernel_rfl) hA3 nums_plain hn3 hc3
  exact calls_ro progOk8 (plays_at (is := (L.take 30).map (madeI t)) (((insA_of n1).keep k1 k2).keep k3 k4) hL rfl (made_is_dec hL rfl) hb hw ((nums_row n2).keep k3 k4) (nums_row n3)) rfl r3 (VRs.cons ((v1.mono le2).mono le3) (VRs.cons (v2.mono le3) (VRs.cons v3 (VRs.cons (.same rfl) (VRs.cons (.same rfl) VRs.nil)))))
set_option maxRecDepth 100000 in
theorem lifted (os : Os) (started : os.Started) (H : Type) (enc : TypeId × Value → H) :
    ReturnsInHanded {} Try.checked os 7 .any (Rows.hmachPlaysSpec.pre6 enc Try.prog Try.f7 Rows.hmachPlaysRow.domain false) (Rows.hmachPlaysSpec.post enc Try.prog Try.f7 false true false false) := by
  refine returnsInHanded_of_change (C := Try.checked) own started (by kernel_rfl) Try.func7
    (ChangeSpec.witness6 (enc := enc) (C := Try.checked) false ⟨#[], #[.slice none 0 0, .slice none 0 0, .slice none 0 0, .bool false, .int .i64 0], []⟩ 8 (by kernel_rfl) (by kernel_rfl) (by kernel_rfl) (by kernel_rfl)) ?_
  intro W base args ds gs before hval0 hW hcnd _
  have hval : ∀ (j : Nat) t v, Try.f7.params[j]? = some t → args[j]? = some v → Value.okWide Try.prog W .any base t v := hval0
  have hW' := hW
  obtain ⟨p, q, hA0, hV, rfl, hfz, hnd⟩ := hW
  have hA : DataW.TrodAll enc Try.prog W 0 (fun _ => true) true Try.f7.params.toList args.toList ds p := hA0
  rw [Try.params7] at hA hval
  obtain ⟨v0, vs0, d0, ds0, p0, q0, hargs, rfl, rfl, h0, r0⟩ := trodAll_cons hA
  obtain ⟨v1, vs1, d1, ds1, p1, q1, rfl, rfl, rfl, h1, r1⟩ := trodAll_cons r0
  obtain ⟨v2, vs2, d2, ds2, p2, q2, rfl, rfl, rfl, h2, r2⟩ := trodAll_cons r1
  obtain ⟨v3, vs3, d3, ds3, p3, q3, rfl, rfl, rfl, h3, r3⟩ := trodAll_cons r2
  obtain ⟨v4, vs4, d4, ds4, p4, q4, rfl, rfl, rfl, h4, r4⟩ := trodAll_cons r3
  obtain ⟨rfl, rfl, rfl⟩ := trodAll_nil r4
  obtain rfl : args = #[v0, v1, v2, v3, v4] := by cases args; simp_all
  obtain ⟨rfl, rfl⟩ := trodVars_none hV
  clear hA0 hval0
  obtain ⟨A1, c1, L, rfl, hA1, hL, hc1, hn1⟩ := open_ins (hval 0 22 v0 rfl rfl) h0
  obtain ⟨A2, c2, rs, rfl, hA2, hb, hc2⟩ := open_nums Try.underlying40 Try.underlying42 (by kernel_rfl) (hval 1 40 v1 rfl rfl) h1
  obtain ⟨A3, c3, ws, rfl, hA3, hw, hc3⟩ := open_nums Try.underlying56 Try.underlying30 (by kernel_rfl) (hval 2 56 v2 rfl rfl) h2
  obtain ⟨t, rfl, rfl, rfl⟩ := open_bool Try.underlying4 (hval 3 4 v3 rfl rfl) h3
  obtain ⟨a4, rfl, rfl, rfl, w4⟩ := open_int Try.underlying3 (hval 4 3 v4 rfl rfl) h4
  have hn2 : A2 = none → rs.length = 0 := fun e => by
    rcases hA2.at_ with ⟨_, h⟩ | ⟨_, _, _, _, _, h, _⟩
    · simpa using h
    · rw [e] at h; cases h
  have hn3 : A3 = none → ws.length = 0 := fun e => by
    rcases hA3.at_ with ⟨_, h⟩ | ⟨_, _, _, _, _, h, _⟩
    · simpa using h
    · rw [e] at h; cases h
  simp only [List.append_nil, List.nil_append] at hW'
  have hlt0 : ∀ x ∈ p0, x.block < W.heap.size := fun x hx => hW'.lt x (by simp [hx])
  have hlt1 : ∀ x ∈ p1, x.block < W.heap.size := fun x hx => hW'.lt x (by simp [hx])
  have hlt2 : ∀ x ∈ p2, x.block < W.heap.size := fun x hx => hW'.lt x (by simp [hx])
  refine (walk A1 A2 A3 c1 c2 c3 L rs ws t a4 W hA1 hn1 hL hc1.2 hA2 hn2 (fun x hx => wf_u64 (hb x hx)) hc2.2 hA3 hn3 (fun x hx => wf_u32 (hw x hx)) hc3.2).mono fun e W' ⟨he, hbl⟩ => ?_
  subst he
  exact ⟨_, rfl, post_of_below (pv := []) hW' (fun _ _ _ => (trodAll_cons_mk (shut_bool Try.underlying4 _) trodAll_mk0))
    (fun sp hsp => (trodAll_cons_mk (WideElems.Trod_stays laidOut (by kernel_rfl) (of_decide_eq_true (by kernel_rfl)) h0 (fun x hx => hbl.same (hlt0 x hx)) (fun x hx => hsp x (by simp [hx]))) (trodAll_cons_mk (WideElems.Trod_stays laidOut (by kernel_rfl) (of_decide_eq_true (by kernel_rfl)) h1 (fun x hx => hbl.same (hlt1 x hx)) (fun x hx => hsp x (by simp [hx]))) (trodAll_cons_mk (WideElems.Trod_stays laidOut (by kernel_rfl) (of_decide_eq_true (by kernel_rfl)) h2 (fun x hx => hbl.same (hlt2 x hx)) (fun x hx => hsp x (by simp [hx]))) (trodAll_cons_mk (shut_bool Try.underlying4 t) (trodAll_cons_mk (shut_int Try.underlying3 w4) trodAll_mk0)))))) (fun _ _ => rfl) (by simp) hbl (ok_one (by kernel_rfl) rfl (okWide_bool_mk Try.underlying4 _))⟩
theorem over : Rows.hmachPlaysRow.holds Try.pinned (OpenSpec.ofChange Rows.hmachPlaysSpec) :=
  OpenClaim.holds_of_wide 7 Try.f7 rfl rfl rfl rfl rfl rfl rfl ⟨rfl, rfl, rfl, rfl, rfl⟩ rfl rfl rfl rfl rfl (by kernel_rfl) Try.func7 (by kernel_rfl)
    (of_decide_eq_true (by kernel_rfl)) (by unfold Func.isWrapper; first | (rw [if_pos (by decide +kernel)]; kernel_rfl) | (rw [if_neg (by decide +kernel)]; exact ⟨rfl, rfl⟩))
    (fun os started H enc _ => lifted os started H enc)
theorem proved : Rows.HmachPlaysSaid :=
  over
#print axioms proved
end Go.Proofs.Ytjhijpfbokklcaa.hmachPlays
