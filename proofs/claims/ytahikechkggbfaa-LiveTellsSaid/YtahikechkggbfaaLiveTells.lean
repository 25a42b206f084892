/- LiveTells answers true for every input, and leaves its arguments as they were: how long values live, and how many press, told two ways comes to the same. No condition. -/
import Derived.Test.YtahikechkggbfaaLn
namespace Go.Proofs.Ytahikechkggbfaa.liveTells
open Go Go.Ev Go.ChangeShapes Go.WideShapes Go.ChangeAt Go.RowKit Lm
set_option linter.unusedVariables false
set_option linter.unusedSimpArgs false
theorem walk {A1 : Option Addr} {c1 : Nat} {l1 : List Int} {A2 : Option Addr} {c2 : Nat} {l2 : List Int} {A3 : Option Addr} {c3 : Nat} {l3 : List Int} {A4 : Option Addr} {c4 : Nat} {l4 : List Int} {fl : Int} {wr : Bool} {A5 : Option Addr} {c5 : Nat} {sp : List (Int × Int)} {W : World} (h1 : Row1 W A1 c1 l1) (h2 : Row1 W A2 c2 l2) (h3 : Row1 W A3 c3 l3) (h4 : Row1 W A4 c4 l4) (hf : i64B fl = true) (h5 : RowW W A5 (spCs sp)) (h5n : A5 = none → sp.length = 0) (h5c : c5 ≤ maxLen) (hsp : ∀ x ∈ sp, (i64B x.1 && i64B x.2) = true) :
    Calls Try.prog 4 #[.agg #[.slice A1 l1.length c1, .slice A2 l2.length c2, .slice A3 l3.length c3, .slice A4 l4.length c4, .int .i64 fl, .bool wr], .slice A5 sp.length c5] W fun e w' => e = .returned (.bool true) ∧ Below W.heap.size W w' := by
  letI : Bs := ⟨W, W.heap.size⟩
  obtain ⟨a1, m1, H1, r1, le1, k1, q1, v1, n1⟩ := (RoRep.start (P := Try.prog) (onbs_any W)).row progOk2 (e := 3) (es := 1) (by kernel_rfl) h1.row nums_plain h1.nil h1.cap_
  obtain ⟨a2, m2, H2, r2, le2, k2, q2, v2, n2⟩ := r1.row progOk2 (e := 3) (es := 1) (by kernel_rfl) h2.row nums_plain h2.nil h2.cap_
  obtain ⟨a3, m3, H3, r3, le3, k3, q3, v3, n3⟩ := r2.row progOk2 (e := 3) (es := 1) (by kernel_rfl) h3.row nums_plain h3.nil h3.cap_
  obtain ⟨a4, m4, H4, r4, le4, k4, q4, v4, n4⟩ := r3.row progOk2 (e := 3) (es := 1) (by kernel_rfl) h4.row nums_plain h4.nil h4.cap_
  obtain ⟨a5, m5, H5, r5, le5, k5, q5, v5, n5⟩ := r4.row progOk2 (e := 38) (es := 2) (by kernel_rfl) h5 spCs_plain h5n h5c
  exact calls_ro progOk2 (tells_at (fl := fl) (wr := wr) (NumsA.keep (NumsA.keep (NumsA.keep (NumsA.keep (nums_row n1) k2 q2) k3 q3) k4 q4) k5 q5) h1.wf (NumsA.keep (NumsA.keep (NumsA.keep (nums_row n2) k3 q3) k4 q4) k5 q5) h2.wf (NumsA.keep (NumsA.keep (nums_row n3) k4 q4) k5 q5) h3.wf (NumsA.keep (nums_row n4) k5 q5) h4.wf hf (spans_row n5) hsp) rfl r5 (VRs.cons (VR.agg rfl (fun i hi1 hi2 => by
    have hi6 : i < 6 := hi1
    rcases (by omega : i = 0 ∨ i = 1 ∨ i = 2 ∨ i = 3 ∨ i = 4 ∨ i = 5) with rfl | rfl | rfl | rfl | rfl | rfl
    · exact ((((v1.mono le2).mono le3).mono le4).mono le5)
    · exact (((v2.mono le3).mono le4).mono le5)
    · exact ((v3.mono le4).mono le5)
    · exact (v4.mono le5)
    · exact .same rfl
    · exact .same rfl)) (VRs.cons v5 VRs.nil))
set_option maxRecDepth 100000 in
theorem lifted (os : Os) (started : os.Started) (H : Type) (enc : TypeId × Value → H) :
    ReturnsInHanded {} Try.checked os 4 .any (Rows.liveTellsSpec.pre6 enc Try.prog Try.f4 Rows.liveTellsRow.domain false) (Rows.liveTellsSpec.post enc Try.prog Try.f4 false true false false) := by
  refine returnsInHanded_of_change (C := Try.checked) own started (by kernel_rfl) Try.func4
    (ChangeSpec.witness6 (enc := enc) (C := Try.checked) false ⟨#[], #[.agg #[.slice none 0 0, .slice none 0 0, .slice none 0 0, .slice none 0 0, .int .i64 0, .bool false], .slice none 0 0], []⟩ 8 (by kernel_rfl) (by kernel_rfl) (by kernel_rfl) (by kernel_rfl)) ?_
  intro W base args ds gs before hval0 hW hcnd _
  have hval : ∀ (j : Nat) t v, Try.f4.params[j]? = some t → args[j]? = some v → Value.okWide Try.prog W .any base t v := hval0
  have hW' := hW
  obtain ⟨p, q, hA0, hV, rfl, hfz, hnd⟩ := hW
  have hA : DataW.TrodAll enc Try.prog W 0 (fun _ => true) true Try.f4.params.toList args.toList ds p := hA0
  rw [Try.params4] at hA hval
  obtain ⟨v0, vs0, d0, ds0, p0, q0, hargs, rfl, rfl, h0, r0⟩ := trodAll_cons hA
  obtain ⟨v1, vs1, d1, ds1, p1, q1, rfl, rfl, rfl, h1, r1⟩ := trodAll_cons r0
  obtain ⟨rfl, rfl, rfl⟩ := trodAll_nil r1
  obtain rfl : args = #[v0, v1] := by cases args; simp_all
  obtain ⟨rfl, rfl⟩ := trodVars_none hV
  clear hA0 hval0
  obtain ⟨A1, c1, l1, A2, c2, l2, A3, c3, l3, A4, c4, l4, fl, wr, rfl, o1, o2, o3, o4, of_⟩ := open_draw (hval 0 24 v0 rfl rfl) h0
  obtain ⟨A5, c5, sp, rfl, s1, s2, s3, s4⟩ := open_spans (hval 1 34 v1 rfl rfl) h1
  simp only [List.append_nil, List.nil_append] at hW'
  have hlt0 : ∀ x ∈ p0, x.block < W.heap.size := fun x hx => hW'.lt x (by simp [hx])
  have hlt1 : ∀ x ∈ p1, x.block < W.heap.size := fun x hx => hW'.lt x (by simp [hx])
  refine (walk o1 o2 o3 o4 of_ s1 s4 s3 s2).mono fun e W' ⟨he, hbl⟩ => ?_
  subst he
  exact ⟨_, rfl, post_of_below (pv := []) hW' (fun _ _ _ => (trodAll_cons_mk (shut_bool Try.underlying4 _) trodAll_mk0))
    (fun sp hsp => (trodAll_cons_mk (WideElems.Trod_stays laidOut (by kernel_rfl) (of_decide_eq_true (by kernel_rfl)) h0 (fun x hx => hbl.same (hlt0 x hx)) (fun x hx => hsp x (by simp [hx]))) (trodAll_cons_mk (WideElems.Trod_stays laidOut (by kernel_rfl) (of_decide_eq_true (by kernel_rfl)) h1 (fun x hx => hbl.same (hlt1 x hx)) (fun x hx => hsp x (by simp [hx]))) trodAll_mk0))) (fun _ _ => rfl) (by simp) hbl (ok_one (by kernel_rfl) rfl (okWide_bool_mk Try.underlying4 _))⟩
theorem over : Rows.liveTellsRow.holds Try.pinned (OpenSpec.ofChange Rows.liveTellsSpec) :=
  OpenClaim.holds_of_wide 4 Try.f4 rfl rfl rfl rfl rfl rfl rfl ⟨rfl, rfl, rfl, rfl, rfl⟩ rfl rfl rfl rfl rfl (by kernel_rfl) Try.func4 (by kernel_rfl)
    (of_decide_eq_true (by kernel_rfl)) (by unfold Func.isWrapper; first | (rw [if_pos (by decide +kernel)]; kernel_rfl) | (rw [if_neg (by decide +kernel)]; exact ⟨rfl, rfl⟩))
    (fun os started H enc _ => lifted os started H enc)
theorem proved : Rows.LiveTellsSaid :=
  over
#print axioms proved
end Go.Proofs.Ytahikechkggbfaa.liveTells
