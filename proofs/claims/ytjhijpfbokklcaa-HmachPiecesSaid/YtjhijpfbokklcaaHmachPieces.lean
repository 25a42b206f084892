/- HmachPieces answers true for every input, and leaves its arguments as they were: run in two pieces a machine comes to the same as in one. No condition. -/
import Derived.Test.YtjhijpfbokklcaaPq
import Derived.Test.YtjhijpfbokklcaaPz
namespace Go.Proofs.Ytjhijpfbokklcaa.hmachPieces
open Go Go.Ev Go.ChangeShapes Go.WideShapes Go.ChangeAt Go.RowKit Hm
set_option linter.unusedVariables false
set_option linter.unusedSimpArgs false
theorem walk (A1 A2 : Option Addr) (c1 c2 : Nat) (L : List Ins5) (rs : List Int) (a b : Int) (W : World) (hA1 : RowW W A1 (insC L)) (hn1 : A1 = none → L.length = 0) (hL : ∀ i ∈ L, okA i) (hc1 : c1 ≤ maxLen) (hA2 : RowW W A2 (rs.map (Value.int .u64))) (hn2 : A2 = none → rs.length = 0) (hb : ∀ x ∈ rs, 0 ≤ x ∧ x < 18446744073709551616) (hc2 : c2 ≤ maxLen) (ha : -9223372036854775808 ≤ a ∧ a ≤ 9223372036854775807) (hb2 : -9223372036854775808 ≤ b ∧ b ≤ 9223372036854775807) :
    Calls Try.prog 4 #[.slice A1 L.length c1, .slice A2 rs.length c2, .int .i64 a, .int .i64 b] W fun e w' => e = .returned (.bool true) ∧ Below W.heap.size W w' := by
  letI : Bs := ⟨W, W.heap.size⟩
  obtain ⟨a1, m1, H1, r1, _, _, _, v1, n1⟩ := (RoRep.start (P := Try.prog) (onbs_any W)).row progOk8 (e := 48) (es := 5) (by kernel_rfl) hA1 insC_plain hn1 hc1
  obtain ⟨a2, m2, H2, r2, le2, k1, k2, v2, n2⟩ := r1.row progOk8 (e := 42) (es := 1) (by kernel_rfl) hA2 nums_plain hn2 hc2
  exact calls_ro progOk8 (pieces_run ((insA_of n1).keep k1 k2) hL (nums_row n2) hb ha hb2) rfl r2 (VRs.cons (v1.mono le2) (VRs.cons v2 (VRs.cons (.same rfl) (VRs.cons (.same rfl) VRs.nil))))
set_option maxRecDepth 100000 in
theorem lifted (os : Os) (started : os.Started) (H : Type) (enc : TypeId × Value → H) :
    ReturnsInHanded {} Try.checked os 4 .any (Rows.hmachPiecesSpec.pre6 enc Try.prog Try.f4 Rows.hmachPiecesRow.domain false) (Rows.hmachPiecesSpec.post enc Try.prog Try.f4 false true false false) := by
  refine returnsInHanded_of_change (C := Try.checked) own started (by kernel_rfl) Try.func4
    (ChangeSpec.witness6 (enc := enc) (C := Try.checked) false ⟨#[], #[.slice none 0 0, .slice none 0 0, .int .i64 0, .int .i64 0], []⟩ 8 (by kernel_rfl) (by kernel_rfl) (by kernel_rfl) (by kernel_rfl)) ?_
  intro W base args ds gs before hval0 hW hcnd _
  have hval : ∀ (j : Nat) t v, Try.f4.params[j]? = some t → args[j]? = some v → Value.okWide Try.prog W .any base t v := hval0
  have hW' := hW
  obtain ⟨p, q, hA0, hV, rfl, hfz, hnd⟩ := hW
  have hA : DataW.TrodAll enc Try.prog W 0 (fun _ => true) true Try.f4.params.toList args.toList ds p := hA0
  rw [Try.params4] at hA hval
  obtain ⟨v0, vs0, d0, ds0, p0, q0, hargs, rfl, rfl, h0, r0⟩ := trodAll_cons hA
  obtain ⟨v1, vs1, d1, ds1, p1, q1, rfl, rfl, rfl, h1, r1⟩ := trodAll_cons r0
  obtain ⟨v2, vs2, d2, ds2, p2, q2, rfl, rfl, rfl, h2, r2⟩ := trodAll_cons r1
  obtain ⟨v3, vs3, d3, ds3, p3, q3, rfl, rfl, rfl, h3, r3⟩ := trodAll_cons r2
  obtain ⟨rfl, rfl, rfl⟩ := trodAll_nil r3
  obtain rfl : args = #[v0, v1, v2, v3] := by cases args; simp_all
  obtain ⟨rfl, rfl⟩ := trodVars_none hV
  clear hA0 hval0
  obtain ⟨A1, c1, L, rfl, hA1, hL, hc1, hn1⟩ := open_ins (hval 0 22 v0 rfl rfl) h0
  obtain ⟨A2, c2, rs, rfl, hA2, hb, hc2⟩ := open_nums Try.underlying40 Try.underlying42 (by kernel_rfl) (hval 1 40 v1 rfl rfl) h1
  obtain ⟨a2, rfl, rfl, rfl, w2⟩ := open_int Try.underlying3 (hval 2 3 v2 rfl rfl) h2
  obtain ⟨a3, rfl, rfl, rfl, w3⟩ := open_int Try.underlying3 (hval 3 3 v3 rfl rfl) h3
  have hn2 : A2 = none → rs.length = 0 := fun e => by
    rcases hA2.at_ with ⟨_, h⟩ | ⟨_, _, _, _, _, h, _⟩
    · simpa using h
    · rw [e] at h; cases h
  simp only [List.append_nil, List.nil_append] at hW'
  have hlt0 : ∀ x ∈ p0, x.block < W.heap.size := fun x hx => hW'.lt x (by simp [hx])
  have hlt1 : ∀ x ∈ p1, x.block < W.heap.size := fun x hx => hW'.lt x (by simp [hx])
  refine (walk A1 A2 c1 c2 L rs a2 a3 W hA1 hn1 hL hc1.2 hA2 hn2 (fun x hx => wf_u64 (hb x hx)) hc2.2 (wf_int2 w2) (wf_int2 w3)).mono fun e W' ⟨he, hbl⟩ => ?_
  subst he
  exact ⟨_, rfl, post_of_below (pv := []) hW' (fun _ _ _ => (trodAll_cons_mk (shut_bool Try.underlying4 _) trodAll_mk0))
    (fun sp hsp => (trodAll_cons_mk (WideElems.Trod_stays laidOut (by kernel_rfl) (of_decide_eq_true (by kernel_rfl)) h0 (fun x hx => hbl.same (hlt0 x hx)) (fun x hx => hsp x (by simp [hx]))) (trodAll_cons_mk (WideElems.Trod_stays laidOut (by kernel_rfl) (of_decide_eq_true (by kernel_rfl)) h1 (fun x hx => hbl.same (hlt1 x hx)) (fun x hx => hsp x (by simp [hx]))) (trodAll_cons_mk (shut_int Try.underlying3 w2) (trodAll_cons_mk (shut_int Try.underlying3 w3) trodAll_mk0))))) (fun _ _ => rfl) (by simp) hbl (ok_one (by kernel_rfl) rfl (okWide_bool_mk Try.underlying4 _))⟩
theorem over : Rows.hmachPiecesRow.holds Try.pinned (OpenSpec.ofChange Rows.hmachPiecesSpec) :=
  OpenClaim.holds_of_wide 4 Try.f4 rfl rfl rfl rfl rfl rfl rfl ⟨rfl, rfl, rfl, rfl, rfl⟩ rfl rfl rfl rfl rfl (by kernel_rfl) Try.func4 (by kernel_rfl)
    (of_decide_eq_true (by kernel_rfl)) (by unfold Func.isWrapper; first | (rw [if_pos (by decide +kernel)]; kernel_rfl) | (rw [if_neg (by decide +kernel)]; exact ⟨rfl, rfl⟩))
    (fun os started H enc _ => lifted os started H enc)
theorem proved : Rows.HmachPiecesSaid :=
  over
#print axioms proved
end Go.Proofs.Ytjhijpfbokklcaa.hmachPieces
